/- Lists of strings and of factors; units; types. -/
import Derived.Test.YtbihckigennlhaaGreatDoorPt
import Derived.Test.YtbihckigennlhaaGreatDoorCodeB
import Derived.Lib.ItoaLen
set_option linter.unusedSimpArgs false
set_option linter.unusedVariables false
set_option maxRecDepth 100000
namespace Go.Proofs.YtbihckigennlhaaGreatDoor
open Go.Sx Go.Proofs
def firstIdx{α:Type}(p:α→Bool):List α→Nat→Int
 |[],_=> -1
 |x::l,k=>if p x then k else firstIdx p l (k+1)
theorem firstIdx_ge{α:Type}(p:α→Bool):∀ (l:List α) (k:Nat),0≤firstIdx p l k↔∃ x∈l,p x=true
 |[],k=>by simp[firstIdx]
 |x::l,k=>by
  unfold firstIdx
  cases h:p x with
  |true=>simp[h]
  |false=>simp[h,firstIdx_ge p l (k+1)]
theorem firstIdx_no{α:Type}{p:α→Bool}:∀ {l:List α} {k:Nat},(∀ x∈l,p x=false)→firstIdx p l k= -1
 |[],k,_=>rfl
 |x::l,k,h=>by unfold firstIdx;rw[h x (by simp)];exact firstIdx_no fun y hy=>h y (by simp[hy])
theorem firstIdx_at{α:Type}[Inhabited α]{p:α→Bool}:∀ {l:List α} {k i:Nat},(∀ j,j<i→p (l.getD j default)=false)→i<l.length→p (l.getD i default)=true→firstIdx p l k=((k+i:Nat):Int)
 |[],k,i,_,h,_=>absurd h (by simp)
 |x::l,k,0,_,_,h=>by
  have h:p x=true:=h
  unfold firstIdx;rw[h];simp
 |x::l,k,i+1,ha,hi,h=>by
  have h0:p x=false:=ha 0 (by omega)
  unfold firstIdx
  rw[h0]
  simp only[Bool.false_eq_true,if_false]
  rw[firstIdx_at (k:=k+1) (i:=i) (fun j hj=>ha (j+1) (by omega)) (by simpa using hi) h]
  congr 1;omega
theorem take_all{α:Type}[Inhabited α]{p:α→Prop}{l:List α}(h:∀ j,j<l.length→p (l.getD j default)):∀ x∈l,p x:=fun x hx=>by
 obtain⟨i,hi,rfl⟩:=List.mem_iff_getElem.1 hx
 have:=h i hi
 rwa [getD_eq hi]at this
theorem indexS_ok(l:List Str)(x:Str):Pure Tryz.prog 129 [.sl false 1 (l.map strRow),sv x] (iv (firstIdx (fun y=>decide (x=y)) l 0)):=by
 refine Pure.runk (fun _=>0) Tryz.func129 comp129 era129 (Nat.le_of_ble_eq_true rfl) fun σ=> ?_
 repeat'(first|exact .nil|refine .k0 ?_|refine .k1 ?_|refine .k2 ?_|refine .k6 ?_|refine .r1 ?_ ?_|(refine .m2 ?_ ?_;intro hlen)|fail)
 all_goals(try simp only[BL]at *)
 refine WK_loop (fun n rg σ'=>∃ i:Nat,i≤l.length∧n=l.length-i∧(∀ j,j<i→¬x=l.getD j default)∧σ'=σ∧rg=[(0,.sl false 1 (l.map strRow)),(1,sv x),(7,iv l.length),(8,iv i)]) l.length rfl ⟨_,_,Zr,Zs,0,Nat.zero_le _,rfl,fun j hj=>absurd hj (by omega),rfl,rfl⟩ ?_
 rintro n _ _ ⟨i,hi,hn,hp,rfl,rfl⟩
 repeat'(first|exact .nil|refine .k0 ?_|refine .k1 ?_|refine .k2 ?_|refine .k6 ?_|refine .k7 ?_|refine .k8 ?_|refine .k9 ?_|(refine .cd ?_ ?_<;>(intro hc;skip))|refine .r1 ?_ ?_|refine .t1 ?_ ?_ ?_|fail)
 try any_goals(exact Zo)
 all_goals(try simp only[BL]at *)
 ·rw[firstIdx_at (p:=fun y=>decide (x=y)) (l:=l) (k:=0) (i:=i) (fun j hj=>decide_eq_false (hp j hj)) (by omega) (decide_eq_true hc),Nat.zero_add]
  exact Zw
 ·refine⟨l.length-(i+1),by omega,_,_,Zr,Zs,i+1,by omega,rfl,cons_lt hp hc,rfl,by rw[up1 (by omega) hlen]⟩
 ·rw[firstIdx_no (fun y hy=>decide_eq_false (take_all (p:=fun y=>¬x=y) (fun j hj=>hp j (by omega)) y hy))]
  exact Zw
theorem containsS_ok(l:List Str)(x:Str):Pure Tryz.prog 89 [.sl false 1 (l.map strRow),sv x] (.v (.bool (decide (∃ y∈l,x=y)))):=by
 refine Pure.runk (fun _=>0) Tryz.func89 comp89 era89 (Nat.le_of_ble_eq_true rfl) fun σ=> ?_
 repeat'(first|exact .nil|refine .k0 ?_|refine .k1 ?_|refine .k2 ?_|refine .k7 ?_|refine .r1 ?_ ?_|refine .an rfl (by intro hob;exact indexS_ok _ _) ?_ ?_|fail)
 all_goals(try simp only[BL]at *)
 ·(refine Sx.Fin.intro Zs (bd ?_);(try simp only[BL]at *);(try simp only[Low,Dig,Wch,and_assoc]at *))
  rw[firstIdx_ge]
  simp only[decide_eq_true_eq]
theorem one_ok(l:List Str)(x:Str):Pure Tryz.prog 99 [sv x,.sl false 1 (l.map strRow)] (.v (.bool (decide (∃ y∈l,x=y)))):=by
 refine Pure.runk (fun _=>0) Tryz.func99 comp99 era99 (Nat.le_of_ble_eq_true rfl) fun σ=> ?_
 repeat'(first|exact .nil|refine .k0 ?_|refine .k1 ?_|refine .k2 ?_|refine .k6 ?_|refine .r1 ?_ ?_|fail)
 all_goals(try simp only[BL]at *)
 refine WK_loop (fun n rg σ'=>∃ i:Nat,i≤l.length∧n=l.length-i∧(∀ j,j<i→¬l.getD j default=x)∧σ'=σ∧rg=[(0,sv x),(1,.sl false 1 (l.map strRow)),(5,iv i)]) l.length rfl ⟨_,_,Zr,Zs,0,Nat.zero_le _,rfl,fun j hj=>absurd hj (by omega),rfl,rfl⟩ ?_
 rintro n _ _ ⟨i,hi,hn,hp,rfl,rfl⟩
 repeat'(first|exact .nil|refine .k0 ?_|refine .k1 ?_|refine .k2 ?_|refine .k6 ?_|refine .k7 ?_|refine .k8 ?_|refine .k9 ?_|(refine .cd ?_ ?_<;>(intro hc;skip))|refine .r1 ?_ ?_|(refine .m2 ?_ ?_;intro hlen)|refine .t1 ?_ ?_ ?_|fail)
 try any_goals(exact Zo)
 all_goals(try simp only[BL]at *)
 ·refine Sx.Fin.intro Zs (bt ?_)
  exact⟨_,getD_mem (by omega),hc.symm⟩
 ·refine⟨l.length-(i+1),by omega,_,_,Zr,Zs,i+1,by omega,rfl,cons_lt hp hc,rfl,by rw[up1 (by omega) hlen]⟩
 ·refine Sx.Fin.intro Zs (bf ?_)
  rintro⟨y,hy,rfl⟩
  exact take_all (p:=fun y=>¬y=x) (fun j hj=>hp j (by omega)) x hy rfl
theorem facNo_ok(f:Fac):Pure Tryz.prog 108 [.agg f.cells] (.v (.bool (decide (¬Name f.name)))):=by
 refine Pure.runk (fun _=>0) Tryz.func108 comp108 era108 (Nat.le_of_ble_eq_true rfl) fun σ=> ?_
 repeat'(first|exact .nil|refine .k0 ?_|refine .k1 ?_|refine .k2 ?_|refine .k7 ?_|refine .r1 ?_ ?_|(refine .m1 ?_ ?_;intro b)|refine .an rfl (by intro hob;exact name_ok _) ?_ ?_|fail)
 all_goals(try simp only[BL]at *)
 ·refine Sx.Fin.intro Zs ?_
  rw[decide_not]
theorem indexF_ok(u:List Fac):Pure Tryz.prog 149 [.sl false 2 (u.map Fac.cells),.v (.func (.func 108) #[] #[])] (iv (firstIdx (fun f=>decide (¬Name f.name)) u 0)):=by
 refine Pure.runk (fun _=>0) Tryz.func149 comp149 era149 (Nat.le_of_ble_eq_true rfl) fun σ=> ?_
 repeat'(first|exact .nil|refine .k0 ?_|refine .k1 ?_|refine .k2 ?_|refine .k6 ?_|refine .r1 ?_ ?_|(refine .m2 ?_ ?_;intro hlen)|fail)
 all_goals(try simp only[BL]at *)
 refine WK_loop (fun n rg σ'=>∃ i:Nat,i≤u.length∧n=u.length-i∧(∀ j,j<i→Name (u.getD j default).name)∧σ'=σ∧rg=[(0,.sl false 2 (u.map Fac.cells)),(1,.v (.func (.func 108) #[] #[])),(7,iv u.length),(8,iv i)]) u.length rfl ⟨_,_,Zr,Zs,0,Nat.zero_le _,rfl,fun j hj=>absurd hj (by omega),rfl,rfl⟩ ?_
 rintro n _ _ ⟨i,hi,hn,hp,rfl,rfl⟩
 repeat'(first|exact .nil|refine .k0 ?_|refine .k1 ?_|refine .k2 ?_|refine .k6 ?_|refine .k7 ?_|refine .k8 ?_|refine .k9 ?_|(refine .cd ?_ ?_<;>(intro hc;skip))|refine .r1 ?_ ?_|refine .t1 ?_ ?_ ?_|refine .an rfl (by intro hob;exact facNo_ok _) ?_ ?_|fail)
 try any_goals(exact Zo)
 all_goals(try simp only[BL]at *)
 ·rw[firstIdx_at (p:=fun f:Fac=>decide (¬Name f.name)) (l:=u) (k:=0) (i:=i) (fun j hj=>decide_eq_false (fun h=>h (hp j hj))) (by omega) (decide_eq_true hc),Nat.zero_add]
  exact Zw
 ·refine⟨u.length-(i+1),by omega,_,_,Zr,Zs,i+1,by omega,rfl,cons_lt hp (Decidable.not_not.1 hc),rfl,by rw[up1 (by omega) hlen]⟩
 ·rw[firstIdx_no (fun y hy=>decide_eq_false (fun h=>h (take_all (p:=fun y:Fac=>Name y.name) (fun j hj=>hp j (by omega)) y hy)))]
  exact Zw
theorem containsF_ok(u:List Fac):Pure Tryz.prog 107 [.sl false 2 (u.map Fac.cells),.v (.func (.func 108) #[] #[])] (.v (.bool (decide (∃ f∈u,¬Name f.name)))):=by
 refine Pure.runk (fun _=>0) Tryz.func107 comp107 era107 (Nat.le_of_ble_eq_true rfl) fun σ=> ?_
 repeat'(first|exact .nil|refine .k0 ?_|refine .k1 ?_|refine .k2 ?_|refine .k7 ?_|refine .r1 ?_ ?_|refine .an rfl (by intro hob;exact indexF_ok _) ?_ ?_|fail)
 all_goals(try simp only[BL]at *)
 ·(refine Sx.Fin.intro Zs (bd ?_);(try simp only[BL]at *);(try simp only[Low,Dig,Wch,and_assoc]at *))
  rw[firstIdx_ge]
  simp only[decide_eq_true_eq]
theorem eq_of_getD{α:Type}[Inhabited α]{a b:List α}(hl:a.length=b.length)(h:∀ j,j<a.length→a.getD j default=b.getD j default):a=b:=by
 apply List.ext_getElem hl
 intro i h1 h2
 have:=h i h1
 rwa [getD_eq h1,getD_eq h2]at this
theorem fac_eq{a b:Fac}(h:a.name=b.name∧a.exp=b.exp):a=b:=by cases a;cases b;simp_all
theorem same_ok(a b:List Fac):Pure Tryz.prog 59 [.sl false 2 (a.map Fac.cells),.sl false 2 (b.map Fac.cells)] (.v (.bool (decide (a=b)))):=by
 refine Pure.runk (fun _=>0) Tryz.func59 comp59 era59 (Nat.le_of_ble_eq_true rfl) fun σ=> ?_
 repeat'(first|exact .nil|refine .k0 ?_|refine .k1 ?_|refine .k2 ?_|refine .k6 ?_|refine .k7 ?_|refine .k9 ?_|(refine .cd ?_ ?_<;>(intro hc;skip))|refine .r1 ?_ ?_|(refine .m2 ?_ ?_;intro hlen)|fail)
 all_goals(try simp only[BL]at *)
 ·refine Sx.Fin.intro Zs (bf ?_)
  rintro rfl;exact hc rfl
 refine WK_loop (fun n rg σ'=>∃ i:Nat,i≤a.length∧n=a.length-i∧(∀ j,j<i→a.getD j default=b.getD j default)∧σ'=σ∧rg=[(0,.sl false 2 (a.map Fac.cells)),(1,.sl false 2 (b.map Fac.cells)),(5,iv i)]) a.length rfl ⟨_,_,Zr,Zs,0,Nat.zero_le _,rfl,fun j hj=>absurd hj (by omega),rfl,rfl⟩ ?_
 rintro n _ _ ⟨i,hi,hn,hp,rfl,rfl⟩
 repeat'(first|exact .nil|refine .k0 ?_|refine .k1 ?_|refine .k2 ?_|refine .k5 ?_|refine .k6 ?_|refine .k7 ?_|refine .k8 ?_|refine .k9 ?_|(refine .cd ?_ ?_<;>(intro hc;skip))|refine .r1 ?_ ?_|(refine .m2 ?_ ?_;intro hlen)|refine .t1 ?_ ?_ ?_|fail)
 try any_goals(exact Zo)
 all_goals(try simp only[BL]at *)
 ·refine Sx.Fin.intro Zs (bf ?_)
  rintro rfl
  rcases hc with hc|hc<;>exact hc rfl
 ·refine⟨a.length-(i+1),by omega,_,_,Zr,Zs,i+1,by omega,rfl,cons_lt hp (fac_eq hc),rfl,by rw[up1 (by omega) hlen]⟩
 ·refine Sx.Fin.intro Zs (bt ?_)
  exact eq_of_getD (by omega) (fun j hj=>hp j (by omega))
theorem equal_ok(a b:List Fac):Pure Tryz.prog 130 [.sl false 2 (a.map Fac.cells),.sl false 2 (b.map Fac.cells)] (.v (.bool (decide (a=b)))):=by
 refine Pure.runk (fun _=>0) Tryz.func130 comp130 era130 (Nat.le_of_ble_eq_true rfl) fun σ=> ?_
 repeat'(first|exact .nil|refine .k0 ?_|refine .k1 ?_|refine .k2 ?_|refine .k6 ?_|refine .k7 ?_|refine .k9 ?_|(refine .cd ?_ ?_<;>(intro hc;skip))|refine .r1 ?_ ?_|(refine .m2 ?_ ?_;intro hlen)|fail)
 all_goals(try simp only[BL]at *)
 ·refine Sx.Fin.intro Zs (bf ?_)
  rintro rfl;exact hc rfl
 refine WK_loop (fun n rg σ'=>∃ i:Nat,i≤a.length∧n=a.length-i∧(∀ j,j<i→a.getD j default=b.getD j default)∧σ'=σ∧rg=[(0,.sl false 2 (a.map Fac.cells)),(1,.sl false 2 (b.map Fac.cells)),(12,iv a.length),(13,iv i)]) a.length rfl ⟨_,_,Zr,Zs,0,Nat.zero_le _,rfl,fun j hj=>absurd hj (by omega),rfl,rfl⟩ ?_
 rintro n _ _ ⟨i,hi,hn,hp,rfl,rfl⟩
 repeat'(first|exact .nil|refine .k0 ?_|refine .k1 ?_|refine .k2 ?_|refine .k5 ?_|refine .k6 ?_|refine .k7 ?_|refine .k8 ?_|refine .k9 ?_|(refine .cd ?_ ?_<;>(intro hc;skip))|refine .r1 ?_ ?_|refine .t1 ?_ ?_ ?_|fail)
 try any_goals(exact Zo)
 all_goals(try simp only[BL]at *)
 ·refine Sx.Fin.intro Zs (bf ?_)
  rintro rfl
  rcases hc with hc|hc<;>exact hc rfl
 ·refine⟨a.length-(i+1),by omega,_,_,Zr,Zs,i+1,by omega,rfl,cons_lt hp (fac_eq hc),rfl,by rw[up1 (by omega) hlen]⟩
 ·refine Sx.Fin.intro Zs (bt ?_)
  exact eq_of_getD (by omega) (fun j hj=>hp j (by omega))
def leS(a b:Str):Bool:=Op.bytesLess a.toList b.toList || decide (a=b)
def facErr(p:Option Str)(f:Fac):Int:=if¬Word f.name then 1 else if f.exp=0∨f.exp>8∨f.exp< -8 then 70 else match p with
 |some p=>if leS f.name p=true then 3 else 0
 |none=>0
def unitErrL:Option Str→List Fac→Int
 |_,[]=>0
 |p,f::l=>if facErr p f=0 then unitErrL (some f.name) l else facErr p f
def unitErr(u:List Fac):Int:=if u.length>4 then 2 else unitErrL none u
def prevAt(u:List Fac)(i:Nat):Option Str:=if i=0 then none else some (u.getD (i-1) default).name
theorem unitErrL_step{u:List Fac}{i:Nat}(hi:i<u.length)(h:facErr (prevAt u i) (u.getD i default)=0):unitErrL (prevAt u i) (u.drop i)=unitErrL (prevAt u (i+1)) (u.drop (i+1)):=by
 rw[drop_get hi,unitErrL,if_pos h];rfl
theorem unitErrL_end{u:List Fac}{i:Nat}{e:Int}(hi:i<u.length)(h:facErr (prevAt u i) (u.getD i default)=e)(he:e≠0):unitErrL (prevAt u i) (u.drop i)=e:=by
 rw[drop_get hi,unitErrL,if_neg (by rw[h];exact he),h]
theorem unitCheck_ok(u:List Fac):Pure Tryz.prog 106 [.sl false 2 (u.map Fac.cells)] (iv (unitErr u)):=by
 refine Pure.runk (fun _=>0) Tryz.func106 comp106 era106 (Nat.le_of_ble_eq_true rfl) fun σ=> ?_
 repeat'(first|exact .nil|refine .k0 ?_|refine .k1 ?_|refine .k2 ?_|refine .k6 ?_|refine .k7 ?_|refine .k9 ?_|(refine .cd ?_ ?_<;>(intro hc;skip))|refine .r1 ?_ ?_|(refine .m2 ?_ ?_;intro hlen)|fail)
 all_goals(try simp only[BL]at *)
 ·rw[unitErr,if_pos (by omega)]
  exact Zw
 have hu:unitErr u=unitErrL none u:=if_neg (by omega)
 refine WK_loop (fun n rg σ'=>∃ i:Nat,i≤u.length∧n=u.length-i∧unitErr u=unitErrL (prevAt u i) (u.drop i)∧σ'=σ∧rg=[(0,.sl false 2 (u.map Fac.cells)),(8,.sl false 2 (u.map Fac.cells)),(9,iv u.length),(10,iv i)]) u.length rfl ⟨_,_,Zr,Zs,0,Nat.zero_le _,rfl,hu,rfl,rfl⟩ ?_
 rintro n _ _ ⟨i,hi,hn,hp,rfl,rfl⟩
 repeat'(first|exact .nil|refine .k0 ?_|refine .k1 ?_|refine .k2 ?_|refine .k3 ?_|refine .k4 ?_|refine .k5 ?_|refine .k6 ?_|refine .k7 ?_|refine .k8 ?_|refine .k9 ?_|(refine .cd ?_ ?_<;>(intro hc;skip))|refine .r1 ?_ ?_|(refine .l1 ?_;intro b)|refine .t1 ?_ ?_ ?_|refine .an rfl (by intro hob;first|exact word_ok _|exact outside_ok _ 8 (by decide)|fail) ?_ ?_|fail)
 try any_goals(exact Zo)
 all_goals(try simp only[BL]at *)
 ·rw[hp,unitErrL_end (e:=1) (by omega) (by unfold facErr;rw[if_pos hc]) (by decide)]
  exact Zw
 ·rename_i hw
  rw[hp,unitErrL_end (e:=70) (by omega) (by unfold facErr;rw[if_neg (fun h=>h hw),if_pos (by omega)]) (by decide)]
  exact Zw
 ·rename_i hw he
  rw[pred1 (by omega) (by omega),Int.toNat_natCast]at hc
  rw[hp,unitErrL_end (e:=3) (by omega) (by
   unfold facErr;rw[if_neg (fun h=>h hw),if_neg (by omega),prevAt,if_neg (by omega)]
   exact if_pos (by simp only[leS,Bool.or_eq_true,decide_eq_true_eq];exact hc.2)) (by decide)]
  exact Zw
 ·rename_i hw he
  refine⟨u.length-(i+1),by omega,_,_,Zr,Zs,i+1,by omega,rfl,?_,rfl,by rw[up1 (n:=u.length) (by omega) (by assumption)]⟩
  rw[hp]
  refine unitErrL_step (by omega) ?_
  unfold facErr;rw[if_neg (fun h=>h hw),if_neg (by omega)]
  by_cases h0:i=0
  ·rw[prevAt,if_pos h0]
  ·rw[pred1 (by omega) (by omega),Int.toNat_natCast]at hc
   rw[prevAt,if_neg h0]
   refine if_neg ?_
   rcases hc with hc|hc
   ·omega
   ·simp only[leS,Bool.or_eq_true,decide_eq_true_eq]
    rintro(h|h)
    ·rw[h]at hc;exact Bool.noConfusion hc.1
    ·exact hc.2 h
 all_goals(try(intro h0;rw[pred1 (by omega) (by omega)];omega))
 ·rw[hp,List.drop_eq_nil_of_le (by omega),unitErrL]
  exact Zw
theorem unitCheckR_ok(u:List Fac):Pure Tryz.prog 54 [.sl false 2 (u.map Fac.cells)] (iv (unitErr u)):=by
 refine Pure.runk (fun _=>0) Tryz.func54 comp54 era54 (Nat.le_of_ble_eq_true rfl) fun σ=> ?_
 repeat'(first|exact .nil|refine .k0 ?_|refine .k1 ?_|refine .k2 ?_|refine .k6 ?_|refine .k7 ?_|refine .k9 ?_|(refine .cd ?_ ?_<;>(intro hc;skip))|refine .r1 ?_ ?_|(refine .m2 ?_ ?_;intro hlen)|fail)
 all_goals(try simp only[BL]at *)
 ·rw[unitErr,if_pos (by omega)]
  exact Zw
 have hu:unitErr u=unitErrL none u:=if_neg (by omega)
 refine WK_loop (fun n rg σ'=>∃ i:Nat,i≤u.length∧n=u.length-i∧unitErr u=unitErrL (prevAt u i) (u.drop i)∧σ'=σ∧rg=[(0,.sl false 2 (u.map Fac.cells)),(3,iv i)]) u.length rfl ⟨_,_,Zr,Zs,0,Nat.zero_le _,rfl,hu,rfl,rfl⟩ ?_
 rintro n _ _ ⟨i,hi,hn,hp,rfl,rfl⟩
 repeat'(first|exact .nil|refine .k0 ?_|refine .k1 ?_|refine .k2 ?_|refine .k3 ?_|refine .k4 ?_|refine .k5 ?_|refine .k6 ?_|refine .k7 ?_|refine .k8 ?_|refine .k9 ?_|(refine .cd ?_ ?_<;>(intro hc;skip))|refine .r1 ?_ ?_|(refine .m2 ?_ ?_;intro hlen)|refine .t1 ?_ ?_ ?_|refine .an rfl (by intro hob;first|exact wordR_ok _|exact far_ok _) ?_ ?_|fail)
 try any_goals(exact Zo)
 all_goals(try simp only[BL]at *)
 ·rw[hp,unitErrL_end (e:=1) (by omega) (by unfold facErr;rw[if_pos hc]) (by decide)]
  exact Zw
 ·rename_i hw
  rw[hp,unitErrL_end (e:=70) (by omega) (by unfold facErr;rw[if_neg (fun h=>h hw),if_pos (by omega)]) (by decide)]
  exact Zw
 ·rename_i hw he
  rw[pred1 (by omega) (by omega),Int.toNat_natCast]at hc
  rw[hp,unitErrL_end (e:=3) (by omega) (by
   unfold facErr;rw[if_neg (fun h=>h hw),if_neg (by omega),prevAt,if_neg (by omega)]
   exact if_pos (by simp only[leS,Bool.or_eq_true,decide_eq_true_eq];exact hc.2)) (by decide)]
  exact Zw
 ·rename_i hw he
  refine⟨u.length-(i+1),by omega,_,_,Zr,Zs,i+1,by omega,rfl,?_,rfl,by rw[up1 (n:=u.length) (by omega) (by assumption)]⟩
  rw[hp]
  refine unitErrL_step (by omega) ?_
  unfold facErr;rw[if_neg (fun h=>h hw),if_neg (by omega)]
  by_cases h0:i=0
  ·rw[prevAt,if_pos h0]
  ·rw[pred1 (by omega) (by omega),Int.toNat_natCast]at hc
   rw[prevAt,if_neg h0]
   refine if_neg ?_
   rcases hc with hc|hc
   ·omega
   ·simp only[leS,Bool.or_eq_true,decide_eq_true_eq]
    rintro(h|h)
    ·rw[h]at hc;exact Bool.noConfusion hc.1
    ·exact hc.2 h
 all_goals(try(intro h0;rw[pred1 (by omega) (by omega)];omega))
 ·rw[hp,List.drop_eq_nil_of_le (by omega),unitErrL]
  exact Zw
theorem bi{n m:Int}(h:n=m):AV.v (.int .i64 n)=iv m:=by rw[h]
def Num(t:Ty):Prop:=t.kind=2∨t.kind=3
instance (t:Ty):Decidable (Num t):=inferInstanceAs (Decidable (_∨_))
theorem isNumber_ok(t:Ty):Pure Tryz.prog 105 [.agg t.cells] (.v (.bool (decide (Num t)))):=by
 refine Pure.runk (fun _=>0) Tryz.func105 comp105 era105 (Nat.le_of_ble_eq_true rfl) fun σ=> ?_
 repeat'(first|exact .nil|refine .k0 ?_|refine .k1 ?_|refine .k2 ?_|refine .k4 ?_|refine .k7 ?_|refine .r1 ?_ ?_|(refine .m1 ?_ ?_;intro b)|fail)
 try any_goals(exact Zo)
 all_goals(try simp only[BL]at *)
 ·(((refine Sx.Fin.intro Zs (bd ?_);(try simp only[BL]at *);(try simp only[Low,Dig,Wch,and_assoc]at *)));try omega)
  unfold Num;omega
theorem number_ok(t:Ty):Pure Tryz.prog 53 [.agg t.cells] (.v (.bool (decide (Num t)))):=by
 refine Pure.runk (fun _=>0) Tryz.func53 comp53 era53 (Nat.le_of_ble_eq_true rfl) fun σ=> ?_
 repeat'(first|exact .nil|refine .k0 ?_|refine .k1 ?_|refine .k2 ?_|refine .k4 ?_|refine .k7 ?_|refine .r1 ?_ ?_|(refine .m1 ?_ ?_;intro b)|fail)
 try any_goals(exact Zo)
 all_goals(try simp only[BL]at *)
 ·(((refine Sx.Fin.intro Zs (bd ?_);(try simp only[BL]at *);(try simp only[Low,Dig,Wch,and_assoc]at *)));try omega)
  unfold Num;omega
def tyErr(t:Ty):Int:=
 if t.kind<1∨t.kind>5∨(t.unit≠[]∧¬Num t)∨(t.kind=5∧¬Name t.of)∨(t.kind≠5∧t.of≠⟨#[]⟩)then 3
 else if unitErr t.unit≠0∨∃ f∈t.unit,¬Name f.name then 70 else 0
theorem name_ne{s:Str}(h:Name s):s≠⟨#[]⟩:=fun e=>by have:=h.1.1;rw[size_zero.2 e]at this;omega
theorem tyErr_3{t:Ty}(h:t.kind<1∨t.kind>5∨(t.unit≠[]∧¬Num t)∨(t.kind=5∧¬Name t.of)∨(t.kind≠5∧t.of≠⟨#[]⟩)):tyErr t=3:=if_pos h
theorem tyErr_70{t:Ty}(h:¬(t.kind<1∨t.kind>5∨(t.unit≠[]∧¬Num t)∨(t.kind=5∧¬Name t.of)∨(t.kind≠5∧t.of≠⟨#[]⟩)))(h':unitErr t.unit≠0∨∃ f∈t.unit,¬Name f.name):tyErr t=70:=(if_neg h).trans (if_pos h')
theorem tyErr_0{t:Ty}(h:¬(t.kind<1∨t.kind>5∨(t.unit≠[]∧¬Num t)∨(t.kind=5∧¬Name t.of)∨(t.kind≠5∧t.of≠⟨#[]⟩)))(h':¬(unitErr t.unit≠0∨∃ f∈t.unit,¬Name f.name)):tyErr t=0:=(if_neg h).trans (if_neg h')
theorem len_pos{α:Type}{l:List α}:0<(l.length:Int)↔l≠[]:=by cases l<;>simp<;>omega
theorem typeR_ok(t:Ty):Pure Tryz.prog 20 [.agg t.cells] (iv (tyErr t)):=by
 have hl:= @len_pos Fac t.unit
 refine Pure.runk (fun _=>0) Tryz.func20 comp20 era20 (Nat.le_of_ble_eq_true rfl) fun σ=> ?_
 repeat'(first|exact .nil|refine .k0 ?_|refine .k1 ?_|refine .k2 ?_|refine .k4 ?_|refine .k6 ?_|refine .k7 ?_|refine .k9 ?_|(refine .cd ?_ ?_<;>(intro hc;skip))|refine .r1 ?_ ?_|(refine .m1 ?_ ?_;intro b)|(refine .m2 ?_ ?_;intro hlen)|refine .an rfl (by intro hob;first|exact nameR_ok _|exact unitCheckR_ok _|exact number_ok _) ?_ ?_|fail)
 try any_goals(exact Zo)
 all_goals(try simp only[BL]at *)
 ·rw[tyErr_3 (by omega)]
  exact Zw
 ·rw[tyErr_3 (by grind)]
  exact Zw
 ·rw[tyErr_70 (by grind) (.inl hc)]
  exact Zw
 rename_i h1 h2
 refine WK_loop (fun n rg σ'=>∃ i:Nat,i≤t.unit.length∧n=t.unit.length-i∧(∀ j,j<i→Name (t.unit.getD j default).name)∧σ'=(1,b,Blk.cells t.cells)::σ∧rg=[(1,.lp 1 b 0),(3,iv i)]) t.unit.length rfl ⟨_,_,Zr,Zs,0,Nat.zero_le _,rfl,fun j hj=>absurd hj (by omega),rfl,rfl⟩ ?_
 rintro n _ _ ⟨i,hi,hn,hp,rfl,rfl⟩
 repeat'(first|exact .nil|refine .k0 ?_|refine .k1 ?_|refine .k2 ?_|refine .k6 ?_|refine .k7 ?_|refine .k8 ?_|refine .k9 ?_|(refine .cd ?_ ?_<;>(intro hc;skip))|refine .r1 ?_ ?_|(refine .m2 ?_ ?_;intro hlen)|refine .t1 ?_ ?_ ?_|refine .an rfl (by intro hob;first|exact nameR_ok _|fail) ?_ ?_|fail)
 try any_goals(exact Zo)
 all_goals(try simp only[BL]at *)
 ·rw[tyErr_70 (by grind) (.inr ⟨_,getD_mem (i:=i) (by omega),hc⟩)]
  exact Zw
 ·refine⟨t.unit.length-(i+1),by omega,_,_,Zr,Zs,i+1,by omega,rfl,cons_lt hp hc,rfl,by rw[up1 (by omega) hlen]⟩
 ·have hall:=take_all (p:=fun f:Fac=>Name f.name) (fun j hj=>hp j (by omega))
  rw[tyErr_0 (by grind) (by grind)]
  exact Zw
theorem type_ok(t:Ty):Pure Tryz.prog 55 [.agg t.cells] (iv (tyErr t)):=by
 have hl:= @len_pos Fac t.unit
 have hn:= @name_ne t.of
 refine Pure.runk (fun _=>0) Tryz.func55 comp55 era55 (Nat.le_of_ble_eq_true rfl) fun σ=> ?_
 repeat'(first|exact .nil|refine .k0 ?_|refine .k1 ?_|refine .k2 ?_|refine .k4 ?_|refine .k7 ?_|refine .k9 ?_|(refine .cd ?_ ?_<;>(intro hc;skip))|refine .r1 ?_ ?_|(refine .m1 ?_ ?_;intro b)|(refine .m2 ?_ ?_;intro hlen)|refine .an rfl (by intro hob;first|exact name_ok _|exact unitCheck_ok _|exact containsF_ok _|exact isNumber_ok _|fail) ?_ ?_|fail)
 try any_goals(exact Zo)
 all_goals(try simp only[BL]at *)
 ·rw[tyErr_3 (by grind)]
  exact Zw
 ·cases(decide (t.kind=5) == !decide (t.of=⟨#[]⟩))<;>simp
 ·rw[tyErr_3 (by grind)]
  exact Zw
 ·rename_i h1 h2
  rw[tyErr_70 (by grind) hc]
  exact Zw
 ·rename_i h1 h2
  rw[tyErr_0 (by grind) (by grind)]
  exact Zw
def pr(low:Nat)(c:UInt8):Prop:=low≤c.toNat∧c.toNat≤126∧c.toNat≠34∧c.toNat≠92
instance (low:Nat)(c:UInt8):Decidable (pr low c):=inferInstanceAs (Decidable (_∧_∧_∧_))
def Prt(s:Str)(low:Nat):Prop:=∀ i,i<s.size→pr low (byteAt s i)
instance (s:Str)(low:Nat):Decidable (Prt s low):=inferInstanceAs (Decidable (∀ i,i<s.size→_))
def fieldsOK(v:Val):Prop:=0≤v.kind∧v.kind≤5∧(v.kind≤3→v.s=⟨#[]⟩)∧(v.kind=0→v.n=0)∧(v.kind=1→v.n=0∨v.n=1)∧(4≤v.kind→v.n=0)
instance (v:Val):Decidable (fieldsOK v):=inferInstanceAs (Decidable (_∧_∧_∧_∧_∧_))
def valErr(v:Val):Int:=
 if¬fieldsOK v then 1
 else if v.n< -1152921504606846976∨v.n>1152921504606846976∨(v.kind=4∧v.s.size>64)∨(v.kind=5∧v.s.size>32)then 2
 else if(v.kind=4∧¬Prt v.s 32)∨(v.kind=5∧(v.s=⟨#[]⟩∨¬Prt v.s 33))then 3 else 0
theorem printable_ok(s:Str)(low:UInt8)(hs:s.size≤1000):Pure Tryz.prog 223 [sv s,.v (.int .u8 low.toNat)] (.v (.bool (decide (Prt s low.toNat)))):=by
 refine Pure.runk (fun _=>0) Tryz.func223 comp223 era223 (Nat.le_of_ble_eq_true rfl) fun σ=> ?_
 repeat'(first|exact .nil|refine .k0 ?_|refine .k1 ?_|refine .k2 ?_|refine .k6 ?_|refine .r1 ?_ ?_|fail)
 all_goals(try simp only[BL]at *)
 refine WK_loop (fun n rg σ'=>∃ i:Nat,i≤s.size∧n=s.size-i∧(∀ j,j<i→pr low.toNat (byteAt s j))∧σ'=σ∧rg=[(0,sv s),(1,.v (.int .u8 low.toNat)),(5,iv i)]) s.size rfl ⟨_,_,Zr,Zs,0,Nat.zero_le _,rfl,fun j hj=>absurd hj (by omega),rfl,rfl⟩ ?_
 rintro n _ _ ⟨i,hi,hn,hp,rfl,rfl⟩
 repeat'(first|exact .nil|refine .k0 ?_|refine .k1 ?_|refine .k2 ?_|refine .k4 ?_|refine .k6 ?_|refine .k7 ?_|refine .k8 ?_|refine .k9 ?_|(refine .cd ?_ ?_<;>(intro hc;skip))|refine .r1 ?_ ?_|refine .t5 ?_ ?_ ?_|fail)
 try any_goals(exact Zo)
 all_goals(try simp only[BL]at *)
 ·refine Sx.Fin.intro Zs (bf ?_)
  intro h
  have:=h i (by omega)
  unfold pr at this
  omega
 ·refine⟨s.size-(i+1),by omega,_,_,Zr,Zs,i+1,by omega,rfl,cons_lt hp ?_,rfl,by rw[i64w (by omega)];rfl⟩
  unfold pr;omega
 ·refine Sx.Fin.intro Zs (bt ?_)
  exact fun j hj=>hp j (by omega)
theorem fields_ok(v:Val):Pure Tryz.prog 198 [.agg v.cells] (.v (.bool (decide (fieldsOK v)))):=by
 refine Pure.runk (fun _=>0) Tryz.func198 comp198 era198 (Nat.le_of_ble_eq_true rfl) fun σ=> ?_
 repeat'(first|exact .nil|refine .k0 ?_|refine .k1 ?_|refine .k2 ?_|refine .k4 ?_|refine .k6 ?_|refine .k7 ?_|refine .k9 ?_|(refine .cd ?_ ?_<;>(intro hc;first|exact kf hc (by assumption)|skip))|refine .r1 ?_ ?_|(refine .m1 ?_ ?_;intro b)|fail)
 try any_goals(exact Zo)
 all_goals(try simp only[BL]at *)
 all_goals(refine Sx.Fin.intro Zs (bd ?_);unfold fieldsOK;grind)
theorem text_ok(s:Str):Pure Tryz.prog 200 [sv s] (.v (.bool (decide (s.size≤64∧Prt s 32)))):=by
 refine Pure.runk (fun _=>0) Tryz.func200 comp200 era200 (Nat.le_of_ble_eq_true rfl) fun σ=> ?_
 repeat'(first|exact .nil|refine .k0 ?_|refine .k1 ?_|refine .k2 ?_|refine .k4 ?_|refine .k7 ?_|refine .r1 ?_ ?_|refine .an rfl (by intro hob;first|exact printable_ok _ 32 (by(simp only[BL]at *;omega))|fail) ?_ ?_|fail)
 all_goals(try simp only[BL]at *)
 ·refine Sx.Fin.intro Zs (bd ?_)
  have:UInt8.toNat 32=32:=rfl
  grind
theorem key_ok(s:Str):Pure Tryz.prog 201 [sv s] (.v (.bool (decide (s≠⟨#[]⟩∧s.size≤32∧Prt s 33)))):=by
 refine Pure.runk (fun _=>0) Tryz.func201 comp201 era201 (Nat.le_of_ble_eq_true rfl) fun σ=> ?_
 repeat'(first|exact .nil|refine .k0 ?_|refine .k1 ?_|refine .k2 ?_|refine .k4 ?_|refine .k7 ?_|refine .r1 ?_ ?_|refine .an rfl (by intro hob;first|exact printable_ok _ 33 (by(simp only[BL]at *;omega))|fail) ?_ ?_|fail)
 all_goals(try simp only[BL]at *)
 ·refine Sx.Fin.intro Zs (bd ?_)
  have:UInt8.toNat 33=33:=rfl
  grind
theorem inRange_ok(n:Int):Pure Tryz.prog 199 [iv n] (.v (.bool (decide (-1152921504606846976≤n∧n≤1152921504606846976)))):=by
 refine Pure.runk (fun _=>0) Tryz.func199 comp199 era199 (Nat.le_of_ble_eq_true rfl) fun σ=> ?_
 repeat'(first|exact .nil|refine .k0 ?_|refine .k1 ?_|refine .k2 ?_|refine .k4 ?_|refine .k7 ?_|refine .r1 ?_ ?_|fail)
 all_goals(try simp only[BL]at *)
 ·(((refine Sx.Fin.intro Zs (bd ?_);(try simp only[BL]at *);(try simp only[pr,fieldsOK,and_assoc]at *)));try omega)
theorem valueR_ok(v:Val):Pure Tryz.prog 173 [.agg v.cells] (iv (valErr v)):=by
 refine Pure.runk (fun _=>0) Tryz.func173 comp173 era173 (Nat.le_of_ble_eq_true rfl) fun σ=> ?_
 repeat'(first|exact .nil|refine .k0 ?_|refine .k1 ?_|refine .k2 ?_|refine .k4 ?_|refine .k7 ?_|refine .k9 ?_|(refine .cd ?_ ?_<;>(intro hc;skip))|refine .r1 ?_ ?_|(refine .m1 ?_ ?_;intro b)|refine .an rfl (by intro hob;first|exact fields_ok _|exact text_ok _|exact key_ok _|exact inRange_ok _) ?_ ?_|fail)
 try any_goals(exact Zo)
 all_goals(try simp only[BL]at *)
 all_goals(refine Sx.Fin.intro Zs (bi ?_);unfold valErr;grind)
theorem value_ok(v:Val):Pure Tryz.prog 88 [.agg v.cells] (iv (valErr v)):=by
 refine Pure.runk (fun _=>0) Tryz.func88 comp88 era88 (Nat.le_of_ble_eq_true rfl) fun σ=> ?_
 repeat'(first|exact .nil|refine .k0 ?_|refine .k1 ?_|refine .k2 ?_|refine .k4 ?_|refine .k6 ?_|refine .k7 ?_|refine .k9 ?_|(refine .cd ?_ ?_<;>(intro hc;first|exact kf hc (by assumption)|skip))|refine .r1 ?_ ?_|(refine .m1 ?_ ?_;intro b)|fail)
 try any_goals(exact Zo)
 all_goals(try simp only[BL]at *)
 any_goals(refine Sx.Fin.intro Zs (bi ?_);unfold valErr fieldsOK;grind)
 ·refine WK_loop (fun n rg σ'=>∃ i:Nat,i≤v.s.size∧n=v.s.size-i∧(∀ j,j<i→pr 33 (byteAt v.s j))∧σ'=(1,b,Blk.cells v.cells)::σ∧rg=[(1,.lp 1 b 0),(6,.v (.int .u8 33)),(88,iv v.s.size),(89,iv i)]) v.s.size rfl ⟨_,_,Zr,Zs,0,Nat.zero_le _,rfl,fun j hj=>absurd hj (by omega),rfl,rfl⟩ ?_
  rintro n _ _ ⟨i,hi,hn,hp,rfl,rfl⟩
  repeat'(first|exact .nil|refine .k0 ?_|refine .k1 ?_|refine .k2 ?_|refine .k4 ?_|refine .k6 ?_|refine .k7 ?_|refine .k8 ?_|refine .k9 ?_|(refine .cd ?_ ?_<;>(intro hc;skip))|refine .r1 ?_ ?_|refine .t5 ?_ ?_ ?_|fail)
  try any_goals(exact Zo)
  all_goals(try simp only[BL]at *)
  ·refine Sx.Fin.intro Zs (bi ?_)
   have:¬Prt v.s 33:=fun h=>by have:=h i (by omega);unfold pr at this;omega
   unfold valErr fieldsOK;grind
  ·refine⟨v.s.size-(i+1),by omega,_,_,Zr,Zs,i+1,by omega,rfl,cons_lt hp ?_,rfl,by rw[i64w (by omega)];rfl⟩
   unfold pr;omega
  ·refine Sx.Fin.intro Zs (bi ?_)
   have:Prt v.s 33:=fun j hj=>hp j (by omega)
   unfold valErr fieldsOK;grind
 ·refine WK_loop (fun n rg σ'=>∃ i:Nat,i≤v.s.size∧n=v.s.size-i∧(∀ j,j<i→pr 32 (byteAt v.s j))∧σ'=(1,b,Blk.cells v.cells)::σ∧rg=[(1,.lp 1 b 0),(6,.v (.int .u8 32)),(88,iv v.s.size),(89,iv i)]) v.s.size rfl ⟨_,_,Zr,Zs,0,Nat.zero_le _,rfl,fun j hj=>absurd hj (by omega),rfl,rfl⟩ ?_
  rintro n _ _ ⟨i,hi,hn,hp,rfl,rfl⟩
  repeat'(first|exact .nil|refine .k0 ?_|refine .k1 ?_|refine .k2 ?_|refine .k4 ?_|refine .k6 ?_|refine .k7 ?_|refine .k8 ?_|refine .k9 ?_|(refine .cd ?_ ?_<;>(intro hc;skip))|refine .r1 ?_ ?_|refine .t5 ?_ ?_ ?_|fail)
  try any_goals(exact Zo)
  all_goals(try simp only[BL]at *)
  ·refine Sx.Fin.intro Zs (bi ?_)
   have:¬Prt v.s 32:=fun h=>by have:=h i (by omega);unfold pr at this;omega
   unfold valErr fieldsOK;grind
  ·refine⟨v.s.size-(i+1),by omega,_,_,Zr,Zs,i+1,by omega,rfl,cons_lt hp ?_,rfl,by rw[i64w (by omega)];rfl⟩
   unfold pr;omega
  ·refine Sx.Fin.intro Zs (bi ?_)
   have:Prt v.s 32:=fun j hj=>hp j (by omega)
   unfold valErr fieldsOK;grind
def Ex.lay(x:Ex):List AV:=[iv x.kind,sv x.op,sv x.name,sv x.table,iv x.val.kind,iv x.val.n,sv x.val.s,.sl false 2 (x.unit.map Fac.cells),iv x.param,iv x.win.kind,iv x.win.size,.sl false 12 (x.args.map Ex.row)]
theorem Ex.args_le(x:Ex):x.args.length<x.size:=by
 have:∀ l:List Ex,l.length≤Ex.sizeL l:=fun l=>by
  induction l with
  |nil=>simp
  |cons y l ih=>have:=Ex.size_pos y;simp only[List.length_cons,Ex.sizeL];omega
 have:=this x.args
 rw[Ex.size_args];omega
theorem Ex.step_size{x:Ex}{i:Nat}(h:i<x.args.length)(hs:x.size≤100000):IntKind.i64.wrap (((1+Ex.sizeL (x.args.take i):Nat):Int)+(x.args.getD i default).size)=((1+Ex.sizeL (x.args.take (i+1)):Nat):Int):=by
 have h1:=Ex.sizeL_take h
 have h2:=Ex.sizeL_take_le x.args (i+1)
 have h3:=Ex.size_args x
 rw[i64w (by omega),h1];omega
theorem Ex.step_depth{x:Ex}{i:Nat}(h:i<x.args.length):(if false=true then(if((x.args.getD i default).depth:Int)<(Ex.depthL (x.args.take i):Int)then((x.args.getD i default).depth:Int)else Ex.depthL (x.args.take i))else(if((x.args.getD i default).depth:Int)>(Ex.depthL (x.args.take i):Int)then((x.args.getD i default).depth:Int)else Ex.depthL (x.args.take i)))=((Ex.depthL (x.args.take (i+1)):Nat):Int):=by
 rw[if_neg Bool.false_ne_true,Ex.depthL_take h]
 split<;>omega
theorem Ex.end_depth{x:Ex}{i:Nat}(h:x.args.length≤i)(hs:x.size≤100000):IntKind.i64.wrap ((Ex.depthL (x.args.take i):Int)+1)=(x.depth:Int):=by
 have:=Ex.depth_le x
 have h2:=Ex.depth_args x
 rw[List.take_of_length_le h,i64w (by omega)];omega
theorem sizeR_ok(x:Ex):x.size≤100000→Pure Tryz.prog 44 [.agg x.row] (iv x.size):=by
 induction x using Ex.ind with
 |h x ih=>
 intro hs
 have ih':∀ y∈x.args,Pure Tryz.prog 44 [.agg y.row] (iv y.size):=fun y hy=>ih y hy (by have:=Ex.size_lt hy;omega)
 have hl:=Ex.args_le x
 rw[Ex.row_eq]
 refine Pure.runk (fun _=>0) Tryz.func44 comp44 era44 (Nat.le_of_ble_eq_true rfl) fun σ=> ?_
 repeat'(first|exact .nil|refine .k0 ?_|refine .k1 ?_|refine .k2 ?_|refine .k6 ?_|refine .r1 ?_ ?_|(refine .m1 ?_ ?_;intro b)|fail)
 all_goals(try simp only[BL]at *)
 refine WK_loop (fun n rg σ'=>∃ i:Nat,i≤x.args.length∧n=x.args.length-i∧σ'=(1,b,Blk.cells x.lay)::σ∧rg=[(1,.lp 1 b 0),(3,iv (1+Ex.sizeL (x.args.take i):Nat)),(4,iv i)]) x.args.length rfl ⟨_,_,Zr,Zs,0,Nat.zero_le _,rfl,rfl,rfl⟩ ?_
 rintro n _ _ ⟨i,hi,hn,rfl,rfl⟩
 repeat'(first|exact .nil|refine .k0 ?_|refine .k1 ?_|refine .k2 ?_|refine .k6 ?_|refine .k7 ?_|refine .k8 ?_|refine .k9 ?_|(refine .cd ?_ ?_<;>(intro hc;skip))|refine .r1 ?_ ?_|(refine .m2 ?_ ?_;intro hlen)|refine .t1 ?_ ?_ ?_|refine .an rfl (by intro hob;exact ih' (x.args.getD i default) (getD_mem (by(simp only[BL]at *;omega)))) ?_ ?_|fail)
 try any_goals(exact Zo)
 all_goals(try simp only[BL]at *)
 ·refine⟨x.args.length-(i+1),by omega,_,_,Zr,Zs,i+1,by omega,rfl,rfl,?_⟩
  rw[Ex.step_size (by omega) hs,i64w (by omega)];rfl
 ·rw[List.take_of_length_le (i:=i) (l:=x.args) (by omega),Ex.size_args]
  exact Zw
theorem depthR_ok(x:Ex):x.size≤100000→Pure Tryz.prog 45 [.agg x.row] (iv x.depth):=by
 induction x using Ex.ind with
 |h x ih=>
 intro hs
 have ih':∀ y∈x.args,Pure Tryz.prog 45 [.agg y.row] (iv y.depth):=fun y hy=>ih y hy (by have:=Ex.size_lt hy;omega)
 have hl:=Ex.args_le x
 rw[Ex.row_eq]
 refine Pure.runk (fun _=>0) Tryz.func45 comp45 era45 (Nat.le_of_ble_eq_true rfl) fun σ=> ?_
 repeat'(first|exact .nil|refine .k0 ?_|refine .k1 ?_|refine .k2 ?_|refine .k6 ?_|refine .r1 ?_ ?_|(refine .m1 ?_ ?_;intro b)|fail)
 all_goals(try simp only[BL]at *)
 refine WK_loop (fun n rg σ'=>∃ i:Nat,i≤x.args.length∧n=x.args.length-i∧σ'=(1,b,Blk.cells x.lay)::σ∧rg=[(1,.lp 1 b 0),(3,iv (Ex.depthL (x.args.take i):Nat)),(4,iv i)]) x.args.length rfl ⟨_,_,Zr,Zs,0,Nat.zero_le _,rfl,rfl,rfl⟩ ?_
 rintro n _ _ ⟨i,hi,hn,rfl,rfl⟩
 repeat'(first|exact .nil|refine .k0 ?_|refine .k1 ?_|refine .k2 ?_|refine .k6 ?_|refine .k7 ?_|refine .k8 ?_|refine .k9 ?_|(refine .cd ?_ ?_<;>(intro hc;skip))|refine .r1 ?_ ?_|(refine .m2 ?_ ?_;intro hlen)|refine .t1 ?_ ?_ ?_|refine .an rfl (by intro hob;exact ih' (x.args.getD i default) (getD_mem (by(simp only[BL]at *;omega)))) ?_ ?_|fail)
 try any_goals(exact Zo)
 all_goals(try simp only[BL]at *)
 ·refine⟨x.args.length-(i+1),by omega,_,_,Zr,Zs,i+1,by omega,rfl,rfl,?_⟩
  rw[Ex.step_depth (by omega),i64w (by omega)];rfl
 ·refine Sx.Fin.intro Zs (bi ?_)
  exact Ex.end_depth (by omega) hs
theorem size_ok(x:Ex):x.size≤100000→Pure Tryz.prog 40 [.agg x.row] (iv x.size):=by
 induction x using Ex.ind with
 |h x ih=>
 intro hs
 have ih':∀ y∈x.args,Pure Tryz.prog 40 [.agg y.row] (iv y.size):=fun y hy=>ih y hy (by have:=Ex.size_lt hy;omega)
 have hl:=Ex.args_le x
 rw[Ex.row_eq]
 refine Pure.runk (fun _=>0) Tryz.func40 comp40 era40 (Nat.le_of_ble_eq_true rfl) fun σ=> ?_
 repeat'(first|exact .nil|refine .k0 ?_|refine .k1 ?_|refine .k2 ?_|refine .k6 ?_|refine .r1 ?_ ?_|(refine .m1 ?_ ?_;intro b)|(refine .m2 ?_ ?_;intro hlen)|fail)
 all_goals(try simp only[BL]at *)
 refine WK_loop (fun n rg σ'=>∃ i:Nat,i≤x.args.length∧n=x.args.length-i∧σ'=(1,b,Blk.cells x.lay)::σ∧rg=[(2,iv (1+Ex.sizeL (x.args.take i):Nat)),(6,.sl false 12 (x.args.map Ex.row)),(7,iv x.args.length),(8,iv i)]) x.args.length rfl ⟨_,_,Zr,Zs,0,Nat.zero_le _,rfl,rfl,rfl⟩ ?_
 rintro n _ _ ⟨i,hi,hn,rfl,rfl⟩
 repeat'(first|exact .nil|refine .k0 ?_|refine .k1 ?_|refine .k2 ?_|refine .k6 ?_|refine .k7 ?_|refine .k8 ?_|refine .k9 ?_|(refine .cd ?_ ?_<;>(intro hc;skip))|refine .r1 ?_ ?_|(refine .l1 ?_;intro b)|refine .t1 ?_ ?_ ?_|refine .an rfl (by intro hob;exact ih' (x.args.getD i default) (getD_mem (by(simp only[BL]at *;omega)))) ?_ ?_|fail)
 try any_goals(exact Zo)
 all_goals(try simp only[BL]at *)
 ·refine⟨x.args.length-(i+1),by omega,_,_,Zr,Zs,i+1,by omega,rfl,rfl,?_⟩
  rw[Ex.step_size (by omega) hs,i64w (by omega)];rfl
 ·rw[List.take_of_length_le (i:=i) (l:=x.args) (by omega),Ex.size_args]
  exact Zw
theorem depth_ok(x:Ex):x.size≤100000→Pure Tryz.prog 41 [.agg x.row] (iv x.depth):=by
 induction x using Ex.ind with
 |h x ih=>
 intro hs
 have ih':∀ y∈x.args,Pure Tryz.prog 41 [.agg y.row] (iv y.depth):=fun y hy=>ih y hy (by have:=Ex.size_lt hy;omega)
 have hl:=Ex.args_le x
 rw[Ex.row_eq]
 refine Pure.runk (fun _=>0) Tryz.func41 comp41 era41 (Nat.le_of_ble_eq_true rfl) fun σ=> ?_
 repeat'(first|exact .nil|refine .k0 ?_|refine .k1 ?_|refine .k2 ?_|refine .k6 ?_|refine .r1 ?_ ?_|(refine .m1 ?_ ?_;intro b)|(refine .m2 ?_ ?_;intro hlen)|fail)
 all_goals(try simp only[BL]at *)
 refine WK_loop (fun n rg σ'=>∃ i:Nat,i≤x.args.length∧n=x.args.length-i∧σ'=(1,b,Blk.cells x.lay)::σ∧rg=[(2,iv (Ex.depthL (x.args.take i):Nat)),(6,.sl false 12 (x.args.map Ex.row)),(7,iv x.args.length),(8,iv i)]) x.args.length rfl ⟨_,_,Zr,Zs,0,Nat.zero_le _,rfl,rfl,rfl⟩ ?_
 rintro n _ _ ⟨i,hi,hn,rfl,rfl⟩
 repeat'(first|exact .nil|refine .k0 ?_|refine .k1 ?_|refine .k2 ?_|refine .k6 ?_|refine .k7 ?_|refine .k8 ?_|refine .k9 ?_|(refine .cd ?_ ?_<;>(intro hc;skip))|refine .r1 ?_ ?_|(refine .l1 ?_;intro b)|refine .t1 ?_ ?_ ?_|refine .an rfl (by intro hob;exact ih' (x.args.getD i default) (getD_mem (by(simp only[BL]at *;omega)))) ?_ ?_|fail)
 try any_goals(exact Zo)
 all_goals(try simp only[BL]at *)
 ·refine⟨x.args.length-(i+1),by omega,_,_,Zr,Zs,i+1,by omega,rfl,rfl,?_⟩
  rw[Ex.step_depth (by omega),i64w (by omega)];rfl
 ·refine Sx.Fin.intro Zs (bi ?_)
  exact Ex.end_depth (by omega) hs
def Ex.lens(x:Ex):Nat:=x.op.size+x.name.size+x.table.size+x.val.s.size
mutual
def Ex.wt:Ex→Nat
 | .mk _ o n t v _ _ _ ks=>max (o.size+n.size+t.size+v.s.size) (Ex.wtL ks)
def Ex.wtL:List Ex→Nat
 |[]=>0
 |x::l=>max x.wt (Ex.wtL l)
end
theorem Ex.wt_eq(x:Ex):x.wt=max x.lens (Ex.wtL x.args):=by cases x;rfl
theorem Ex.wtL_mem{l:List Ex}{y:Ex}(h:y∈l):y.wt≤Ex.wtL l:=by
 induction l with
 |nil=>cases h
 |cons x l ih=>
  rw[Ex.wtL]
  rcases List.mem_cons.1 h with rfl|h
  ·omega
  ·have:=ih h;omega
theorem Ex.wt_le{x y:Ex}(h:y∈x.args):y.wt≤x.wt:=by
 have:=Ex.wtL_mem h
 rw[Ex.wt_eq x];omega
def Ex.big(x:Ex)(n:Int):Prop:=n<1∨x.lens>300∨x.unit.length>10∨x.args.length>10∨∃ f∈x.unit,f.name.size>100
instance (x:Ex)(n:Int):Decidable (x.big n):=inferInstanceAs (Decidable (_∨_∨_∨_∨_))
mutual
def few:Ex→Int→Int
 | .mk k o nm t v u p w ks,n=>if Ex.big (.mk k o nm t v u p w ks) n then -1 else fewL ks (n-1)
def fewL:List Ex→Int→Int
 |[],n=>n
 |x::l,n=>if n<0 then n else fewL l (few x n)
end
theorem few_eq(x:Ex)(n:Int):few x n=if x.big n then -1 else fewL x.args (n-1):=by cases x;rfl
mutual
theorem few_size:∀ (x:Ex) (n:Int), -1≤n→-1≤few x n∧few x n≤n∧(0≤few x n→few x n+x.size≤n)
 | .mk k o nm t v u p w ks,n,hn=>by
  rw[few_eq]
  split
  ·omega
  ·rename_i h
   have h1:¬n<1:=fun h'=>h (.inl h')
   have:=fewL_size ks (n-1) (by omega)
   rw[Ex.size]
   simp only[Ex.args]
   omega
theorem fewL_size:∀ (l:List Ex) (n:Int), -1≤n→-1≤fewL l n∧fewL l n≤n∧(0≤fewL l n→fewL l n+Ex.sizeL l≤n)
 |[],n,hn=>by rw[fewL,Ex.sizeL];omega
 |x::l,n,hn=>by
  rw[fewL,Ex.sizeL]
  split
  ·omega
  ·have h1:=few_size x n hn
   have h2:=fewL_size l (few x n) h1.1
   omega
end
theorem fewL_stop{l:List Ex}{n:Int}(h:n<0):fewL l n=n:=by
 cases l with
 |nil=>rfl
 |cons x l=>rw[fewL,if_pos h]
theorem fewL_step{x:Ex}{i:Nat}{n:Int}(hi:i<x.args.length)(h:¬n<0):fewL (x.args.drop i) n=fewL (x.args.drop (i+1)) (few (x.args.getD i default) n):=by
 rw[drop_get hi,fewL,if_neg h]
theorem few_ok(x:Ex):x.wt≤2 ^ 60→∀ n:Int, -1≤n∧n≤1000→Pure Tryz.prog 13 [.agg x.row,iv n] (iv (few x n)):=by
 induction x using Ex.ind with
 |h x ih=>
 intro hs n0 hn0
 have ih':∀ y∈x.args,∀ n:Int, -1≤n∧n≤1000→Pure Tryz.prog 13 [.agg y.row,iv n] (iv (few y n)):=fun y hy=>ih y hy (by have:=Ex.wt_le hy;omega)
 have hw:=Ex.wt_eq x
 have hw':x.lens=x.op.size+x.name.size+x.table.size+x.val.s.size:=rfl
 have hw'':x.op.size+x.name.size+x.table.size+x.val.s.size≤1152921504606846976:=by omega
 rw[Ex.row_eq]
 refine Pure.runk (fun _=>0) Tryz.func13 comp13 era13 (Nat.le_of_ble_eq_true rfl) fun σ=> ?_
 repeat'(first|exact .nil|refine .k0 ?_|refine .k1 ?_|refine .k2 ?_|refine .k3 ?_|refine .k4 ?_|refine .k6 ?_|refine .k7 ?_|refine .k9 ?_|(refine .cd ?_ ?_<;>(intro hc;skip))|refine .r1 ?_ ?_|(refine .m1 ?_ ?_;intro b)|(refine .m2 ?_ ?_;intro hlen)|fail)
 try any_goals(exact Zo)
 all_goals(try simp only[BL]at *)
 all_goals have hsum:IntKind.i64.wrap (IntKind.i64.wrap (IntKind.i64.wrap ((x.op.size:Int)+x.name.size)+x.table.size)+x.val.s.size)=(x.lens:Int):=by rw[i64w (n:=(x.op.size:Int)+x.name.size) (by omega),i64w (n:=(x.op.size:Int)+x.name.size+x.table.size) (by omega),i64w (by omega)];omega
 all_goals rw[hsum]at hc
 ·refine Sx.Fin.intro Zs (bi ?_)
  rw[few_eq,if_pos (by unfold Ex.big;omega)]
 refine WK_loop (fun n rg σ'=>∃ i:Nat,i≤x.unit.length∧n=x.unit.length-i∧(∀ j,j<i→¬(x.unit.getD j default).name.size>100)∧σ'=(2,b,Blk.cells x.lay)::σ∧rg=[(1,iv n0),(2,.lp 2 b 0),(5,iv i)]) x.unit.length rfl ⟨_,_,Zr,Zs,0,Nat.zero_le _,rfl,fun j hj=>absurd hj (by omega),rfl,rfl⟩ ?_
 rintro n _ _ ⟨i,hi,hn,hp,rfl,rfl⟩
 repeat'(first|exact .nil|refine .k0 ?_|refine .k1 ?_|refine .k2 ?_|refine .k6 ?_|refine .k7 ?_|refine .k8 ?_|refine .k9 ?_|(refine .cd ?_ ?_<;>(intro hc;skip))|refine .r1 ?_ ?_|(refine .m2 ?_ ?_;intro hlen)|refine .t1 ?_ ?_ ?_|fail)
 try any_goals(exact Zo)
 all_goals(try simp only[BL]at *)
 ·refine Sx.Fin.intro Zs (bi ?_)
  rw[few_eq,if_pos (.inr (.inr (.inr (.inr ⟨_,getD_mem (i:=i) (by omega),by omega⟩))))]
 ·refine⟨x.unit.length-(i+1),by omega,_,_,Zr,Zs,i+1,by omega,rfl,cons_lt hp (by omega),rfl,by rw[up1 (n:=x.unit.length) (by omega) (by assumption)]⟩
 have hall:=take_all (p:=fun f:Fac=>¬f.name.size>100) (l:=x.unit) (fun j hj=>hp j (by omega))
 have hbig:¬x.big n0:=by rintro(h|h|h|h|⟨f,h1,h2⟩);all_goals first|omega|exact hall f h1 h2
 have hfew:few x n0=fewL x.args (n0-1):=by rw[few_eq,if_neg hbig]
 have hn1:IntKind.i64.wrap (n0-1)=n0-1:=i64w (by omega)
 rw[hn1]
 refine WK_loop (fun n rg σ'=>∃ (i:Nat) (m:Int),i≤x.args.length∧n=x.args.length-i∧few x n0=fewL (x.args.drop i) m∧(-1≤m∧m≤1000)∧σ'=(2,b,Blk.cells x.lay)::σ∧rg=[(1,iv m),(2,.lp 2 b 0),(6,iv i)]) x.args.length rfl ⟨_,_,Zr,Zs,0,n0-1,Nat.zero_le _,rfl,hfew,by omega,rfl,rfl⟩ ?_
 rintro n _ _ ⟨i,m,hi,hn,hp,hm,rfl,rfl⟩
 repeat'(first|exact .nil|refine .k0 ?_|refine .k1 ?_|refine .k2 ?_|refine .k4 ?_|refine .k6 ?_|refine .k7 ?_|refine .k8 ?_|refine .k9 ?_|(refine .cd ?_ ?_<;>(intro hc;skip))|refine .r1 ?_ ?_|(refine .m2 ?_ ?_;intro hlen)|refine .t1 ?_ ?_ ?_|refine .an rfl (by intro hob;exact ih' (x.args.getD i default) (getD_mem (by(simp only[BL]at *;omega))) _ (by first|omega|fail)) ?_ ?_|fail)
 try any_goals(exact Zo)
 all_goals(try simp only[BL]at *)
 ·have:=few_size (x.args.getD i default) m hm.1
  refine⟨x.args.length-(i+1),by omega,_,_,Zr,Zs,i+1,_,by omega,rfl,by rw[hp,fewL_step (by omega) (by omega)],by omega,rfl,by rw[up1 (n:=x.args.length) (by omega) (by omega)]⟩
 ·refine Sx.Fin.intro Zs (bi ?_)
  rw[hp]
  by_cases h:m<0
  ·rw[fewL_stop h]
  ·rw[List.drop_eq_nil_of_le (by omega),fewL]
def tyEx(t:Ty):Ex:=⟨0,⟨#[]⟩,t.of,⟨#[]⟩,⟨0,0,⟨#[]⟩⟩,t.unit,0,⟨0,0⟩,[]⟩
theorem tyEx_lens(t:Ty):(tyEx t).lens=t.of.size:=by show 0+t.of.size+0+0=_;omega
theorem tyEx_wt(t:Ty):(tyEx t).wt=t.of.size:=by show max (0+t.of.size+0+0) 0=_;omega
def FewTy(t:Ty):Prop:=t.of.size≤300∧t.unit.length≤10∧∀ f∈t.unit,f.name.size≤100
instance (t:Ty):Decidable (FewTy t):=inferInstanceAs (Decidable (_∧_∧_))
theorem big_ty(t:Ty):(tyEx t).big 1↔¬FewTy t:=by
 show((1:Int)<1∨(tyEx t).lens>300∨t.unit.length>10∨0>10∨∃ f∈t.unit,f.name.size>100)↔_
 rw[tyEx_lens]
 unfold FewTy
 grind
theorem few_ty(t:Ty):0≤few (tyEx t) 1↔FewTy t:=by
 rw[few_eq]
 by_cases h:(tyEx t).big 1
 ·rw[if_pos h]
  have:=(big_ty t).1 h
  grind
 ·rw[if_neg h]
  have:FewTy t:=Decidable.not_not.1 fun h'=>h ((big_ty t).2 h')
  show 0≤fewL [] (1-1)↔_
  rw[fewL]
  grind
theorem fewType_ok(t:Ty)(h:t.of.size≤2 ^ 59):Pure Tryz.prog 19 [.agg t.cells] (.v (.bool (decide (FewTy t)))):=by
 refine Pure.runk (fun _=>0) Tryz.func19 comp19 era19 (Nat.le_of_ble_eq_true rfl) fun σ=> ?_
 repeat'(first|exact .nil|refine .k0 ?_|refine .k1 ?_|refine .k2 ?_|refine .k7 ?_|refine .r1 ?_ ?_|(refine .m1 ?_ ?_;intro b)|refine .an rfl (by intro hob;exact(few_ok (tyEx t) (by rw[tyEx_wt];omega) 1 (by omega)).wk (by repeat' first|exact .refl _|exact .nil|refine .cons ?_ ?_|refine .agg ?_|fail)) ?_ ?_|fail)
 all_goals(try simp only[BL]at *)
 ·refine Sx.Fin.intro Zs (bd ?_)
  rw[← few_ty];simp
end Go.Proofs.YtbihckigennlhaaGreatDoor
namespace Go.Sx
open Go.Proofs.YtbihckigennlhaaGreatDoor
theorem Wk.row{l:List Ex}{nn:Bool}:Wk (.sl nn 12 (l.map Ex.row)) (.sl nn 12 (l.map Ex.cells)):=by rw[Ex.cells_row];exact Wk.refl _
end Go.Sx
namespace Go.Proofs.YtbihckigennlhaaGreatDoor
open Go.Sx Go.Proofs
def Ex.Flat(a b:Ex):Prop:=a.kind=b.kind∧a.op=b.op∧a.name=b.name∧a.table=b.table∧a.val=b.val∧a.unit=b.unit∧a.param=b.param∧a.win=b.win
instance (a b:Ex):Decidable (a.Flat b):=inferInstanceAs (Decidable (_∧_∧_∧_∧_∧_∧_∧_))
theorem val_eq{a b:Val}:a=b↔a.kind=b.kind∧a.n=b.n∧a.s=b.s:=by cases a;cases b;simp
theorem win_eq{a b:Win}:a=b↔a.kind=b.kind∧a.size=b.size:=by cases a;cases b;simp
theorem flat_ok(a b:Ex):Pure Tryz.prog 43 [.agg a.row,.agg b.row] (.v (.bool (decide (a.Flat b)))):=by
 rw[Ex.row_eq a,Ex.row_eq b]
 refine Pure.runk (fun _=>0) Tryz.func43 comp43 era43 (Nat.le_of_ble_eq_true rfl) fun σ=> ?_
 repeat'(first|exact .nil|refine .k0 ?_|refine .k1 ?_|refine .k2 ?_|refine .k4 ?_|refine .k7 ?_|refine .r1 ?_ ?_|(refine .m1 ?_ ?_;intro b)|refine .an rfl (by intro hob;first|exact same_ok _ _|fail) ?_ ?_|fail)
 all_goals(try simp only[BL]at *)
 ·refine Sx.Fin.intro Zs (bd ?_)
  unfold Ex.Flat;rw[val_eq,win_eq];grind
theorem bare_ok(a b:Ex):Pure Tryz.prog 90 [.agg a.row,.agg b.row] (.v (.bool (decide (a.Flat b)))):=by
 rw[Ex.row_eq a,Ex.row_eq b]
 refine Pure.runk (fun _=>0) Tryz.func90 comp90 era90 (Nat.le_of_ble_eq_true rfl) fun σ=> ?_
 repeat'(first|exact .nil|refine .k0 ?_|refine .k1 ?_|refine .k2 ?_|refine .k4 ?_|refine .k7 ?_|refine .r1 ?_ ?_|(refine .m1 ?_ ?_;intro b)|refine .an rfl (by intro hob;exact equal_ok _ _) ?_ ?_|fail)
 all_goals(try simp only[BL]at *)
 ·refine Sx.Fin.intro Zs (bd ?_)
  unfold Ex.Flat;rw[val_eq,win_eq];grind
def tru:Ex:=⟨1,⟨#[]⟩,⟨#[]⟩,⟨#[]⟩,⟨1,1,⟨#[]⟩⟩,[],0,⟨0,0⟩,[]⟩
theorem true_ok:Pure Tryz.prog 34 [] (.agg tru.row):=by
 refine Pure.runk (fun _=>0) Tryz.func34 comp34 era34 (Nat.le_of_ble_eq_true rfl) fun σ=> ?_
 repeat'(first|exact .nil|refine .k0 ?_|refine .k1 ?_|refine .k2 ?_|refine .k7 ?_|refine .r1 ?_ ?_|(refine .l1 ?_;intro b)|fail)
 all_goals(try simp only[BL]at *)
 ·refine Sx.Fin.wk Zs (Wk.agg ?_)
  show WkL _ tru.lay
  unfold Ex.lay
  repeat' first|exact .refl _|exact .nil|refine .cons ?_ ?_|fail
theorem aggregates_ok:Pure Tryz.prog 100 [] (.sl false 1 (aggL.map strRow)):=by
 refine Pure.runk (fun _=>0) Tryz.func100 comp100 era100 (Nat.le_of_ble_eq_true rfl) fun σ=> ?_
 repeat'(first|exact .nil|refine .k0 ?_|refine .k1 ?_|refine .k2 ?_|refine .k7 ?_|refine .r1 ?_ ?_|fail)
 all_goals(try simp only[BL]at *)
 ·decide
 ·refine Sx.Fin.wk Zs ?_
  exact Wk.sl
theorem operators_ok:Pure Tryz.prog 133 [] (.sl false 1 (binL.map strRow)):=by
 refine Pure.runk (fun _=>0) Tryz.func133 comp133 era133 (Nat.le_of_ble_eq_true rfl) fun σ=> ?_
 repeat'(first|exact .nil|refine .k0 ?_|refine .k1 ?_|refine .k2 ?_|refine .k7 ?_|refine .r1 ?_ ?_|fail)
 all_goals(try simp only[BL]at *)
 ·decide
 ·refine Sx.Fin.wk Zs ?_
  exact Wk.sl
def winOK(w:Win):Prop:=(w.kind=1∧w.size=0)∨(1<w.kind∧w.kind≤4∧1≤w.size∧w.size≤1099511627776)
instance (w:Win):Decidable (winOK w):=inferInstanceAs (Decidable (_∨_∧_∧_∧_))
theorem windowR_ok(w:Win):Pure Tryz.prog 174 [.agg w.cells] (.v (.bool (decide (winOK w)))):=by
 refine Pure.runk (fun _=>0) Tryz.func174 comp174 era174 (Nat.le_of_ble_eq_true rfl) fun σ=> ?_
 repeat'(first|exact .nil|refine .k0 ?_|refine .k1 ?_|refine .k2 ?_|refine .k4 ?_|refine .k7 ?_|refine .k9 ?_|(refine .cd ?_ ?_<;>(intro hc;skip))|refine .r1 ?_ ?_|(refine .m1 ?_ ?_;intro b)|fail)
 all_goals(try simp only[BL]at *)
 all_goals(refine Sx.Fin.intro Zs (bd ?_);unfold winOK;grind)
def litEx(x:Ex):Ex:=⟨1,⟨#[]⟩,x.name,⟨#[]⟩,x.val,x.unit,0,⟨0,0⟩,[]⟩
def litOK(x:Ex):Prop:=valErr x.val=0∧0≤x.val.n∧tyErr ⟨x.val.kind,x.unit,x.name⟩=0∧x.Flat (litEx x)
instance (x:Ex):Decidable (litOK x):=inferInstanceAs (Decidable (_∧_∧_∧_))
theorem literalR_ok(x:Ex):Pure Tryz.prog 131 [.agg x.row] (.v (.bool (decide (litOK x)))):=by
 rw[Ex.row_eq x]
 refine Pure.runk (fun _=>0) Tryz.func131 comp131 era131 (Nat.le_of_ble_eq_true rfl) fun σ=> ?_
 repeat'(first|exact .nil|refine .k0 ?_|refine .k1 ?_|refine .k2 ?_|refine .k4 ?_|refine .k7 ?_|refine .k9 ?_|(refine .cd ?_ ?_<;>(intro hc;skip))|refine .r1 ?_ ?_|(refine .l1 ?_;intro b)|(refine .m1 ?_ ?_;intro b)|refine .an rfl (by intro hob;first|exact valueR_ok _|exact typeR_ok ⟨x.val.kind,x.unit,x.name⟩|(refine(flat_ok x (litEx x)).wk ?_;(repeat' first|exact .row|exact .refl _|exact .nil|refine .cons ?_ ?_|refine .agg ?_|fail);done)) ?_ ?_|fail)
 try any_goals(exact Zo)
 all_goals(try simp only[BL]at *)
 all_goals(refine Sx.Fin.intro Zs (bd ?_);unfold litOK;grind)
def aggEx(x:Ex):Ex:=⟨5,x.op,⟨#[]⟩,x.table,⟨0,0,⟨#[]⟩⟩,[],x.param,x.win,[]⟩
def parOK(x:Ex):Prop:=if x.op=⟨#[113,117,97,110,116,105,108,101]⟩then 1≤x.param∧x.param≤1000 else if x.op=⟨#[100,101,99,97,121]⟩then 1≤x.param∧x.param≤1073741824 else x.param=0
instance (x:Ex):Decidable (parOK x):=by unfold parOK;infer_instance
def aggOK(x:Ex):Prop:=(∃ y∈aggL,x.op=y)∧Name x.table∧winOK x.win∧parOK x∧x.Flat (aggEx x)
instance (x:Ex):Decidable (aggOK x):=inferInstanceAs (Decidable (_∧_∧_∧_∧_))
theorem aggregateR_ok(x:Ex):Pure Tryz.prog 132 [.agg x.row] (.v (.bool (decide (aggOK x)))):=by
 rw[Ex.row_eq x]
 refine Pure.runk (fun _=>0) Tryz.func132 comp132 era132 (Nat.le_of_ble_eq_true rfl) fun σ=> ?_
 repeat'(first|exact .nil|refine .k0 ?_|refine .k1 ?_|refine .k2 ?_|refine .k4 ?_|refine .k5 ?_|refine .k7 ?_|refine .k9 ?_|(refine .cd ?_ ?_<;>(intro hc;skip))|refine .r1 ?_ ?_|(refine .m1 ?_ ?_;intro b)|refine .an rfl (by intro hob;first|exact nameR_ok _|exact windowR_ok x.win|exact aggregates_ok|exact one_ok aggL x.op|(refine(flat_ok x (aggEx x)).wk ?_;(repeat' first|exact .row|exact .refl _|exact .nil|refine .cons ?_ ?_|refine .agg ?_|fail);done)) ?_ ?_|fail)
 try any_goals(exact Zo)
 all_goals(try simp only[BL]at *)
 all_goals(refine Sx.Fin.intro Zs (bd ?_);unfold aggOK parOK;have hqd:(⟨#[113,117,97,110,116,105,108,101]⟩:Str)≠⟨#[100,101,99,97,121]⟩:=by decide
           first|grind|fail)
def namEx(x:Ex):Ex:=⟨x.kind,⟨#[]⟩,x.name,⟨#[]⟩,⟨0,0,⟨#[]⟩⟩,[],0,⟨0,0⟩,[]⟩
def opEx(x:Ex):Ex:=⟨x.kind,x.op,⟨#[]⟩,⟨#[]⟩,⟨0,0,⟨#[]⟩⟩,[],0,⟨0,0⟩,[]⟩
def namOK(x:Ex):Prop:=Name x.name∧x.Flat (namEx x)
instance (x:Ex):Decidable (namOK x):=inferInstanceAs (Decidable (_∧_))
def nodeN(x:Ex):Int:=if x.kind=4∨x.kind=6 then 1 else if x.kind=5∨x.kind=7∨x.kind=9 then 2 else if x.kind=8 then 3 else 0
def nodeB(x:Ex)(ins:Bool):Prop:=
 if x.kind=1 then litOK x else if x.kind=2 then ins=true∧namOK x else if x.kind=3∨x.kind=4 then ins=false∧namOK x
 else if x.kind=5 then ins=false∧aggOK x else if x.kind=6 then x.Flat (opEx x)∧∃ y∈unL,x.op=y
 else if x.kind=7 then x.Flat (opEx x)∧∃ y∈binL,x.op=y else if x.kind=8∨x.kind=9 then x.Flat (opEx x)∧x.op=⟨#[]⟩else False
instance (x:Ex)(ins:Bool):Decidable (nodeB x ins):=by unfold nodeB;infer_instance
theorem bt2{n m:Int}{b:Bool}{p:Prop}[Decidable p](h1:n=m)(h2:b=true↔p):AV.tup [.v (.int .i64 n),.v (.bool b)]= .tup [iv m,.v (.bool (decide p))]:=by rw[h1,bd h2]
theorem nodeR_ok(x:Ex)(ins:Bool):Pure Tryz.prog 91 [.agg x.row,.v (.bool ins)] (.tup [iv (nodeN x),.v (.bool (decide (nodeB x ins)))]):=by
 rw[Ex.row_eq x]
 refine Pure.runk (fun _=>0) Tryz.func91 comp91 era91 (Nat.le_of_ble_eq_true rfl) fun σ=> ?_
 repeat'(first|exact .nil|refine .k0 ?_|refine .k1 ?_|refine .k2 ?_|refine .k4 ?_|refine .k5 ?_|refine .k6 ?_|refine .k7 ?_|refine .k9 ?_|(refine .cd ?_ ?_<;>(intro hc;skip))|refine .r1 ?_ ?_|(refine .m1 ?_ ?_;intro b)|refine .an rfl (by intro hob;first|exact nameR_ok _|(refine(literalR_ok x).wk ?_;(repeat' first|exact .row|exact .refl _|refine .cons ?_ ?_|refine .agg ?_|fail);done)|(refine(aggregateR_ok x).wk ?_;(repeat' first|exact .row|exact .refl _|refine .cons ?_ ?_|refine .agg ?_|fail);done)|exact operators_ok|exact one_ok binL x.op|(refine(one_ok unL x.op).wk ?_;(repeat' first|exact .refl _|refine .cons ?_ ?_|exact .sl|fail);done)|(refine(flat_ok x (namEx x)).wk ?_;(repeat' first|exact .row|exact .refl _|exact .nil|refine .cons ?_ ?_|refine .agg ?_|fail);done)|(refine(flat_ok x (opEx x)).wk ?_;(repeat' first|exact .row|exact .refl _|exact .nil|refine .cons ?_ ?_|refine .agg ?_|fail);done)) ?_ ?_|fail)
 try any_goals(exact Zo)
 all_goals(try simp only[BL]at *)
 all_goals(refine Sx.Fin.intro Zs (bt2 ?_ ?_)<;>grind [nodeN,nodeB,namOK])
mutual
def Ex.eqB:Ex→Ex→Bool
 | .mk k o n t v u p w ks,.mk k' o' n' t' v' u' p' w' ks'=>decide (k=k'∧o=o'∧n=n'∧t=t'∧v=v'∧u=u'∧p=p'∧w=w') && Ex.eqL ks ks'
def Ex.eqL:List Ex→List Ex→Bool
 |[],[]=>true
 |x::l,y::m=>x.eqB y && Ex.eqL l m
 |[],_::_=>false
 |_::_,[]=>false
end
mutual
theorem Ex.eqB_iff:∀ a b:Ex,a.eqB b=true↔a=b
 | .mk k o n t v u p w ks,.mk k' o' n' t' v' u' p' w' ks'=>by
  rw[Ex.eqB,Bool.and_eq_true,decide_eq_true_eq,Ex.eqL_iff ks ks',Ex.mk.injEq]
  simp only[and_assoc]
theorem Ex.eqL_iff:∀ a b:List Ex,Ex.eqL a b=true↔a=b
 |[],[]=>by simp[Ex.eqL]
 |x::l,y::m=>by rw[Ex.eqL,Bool.and_eq_true,Ex.eqB_iff x y,Ex.eqL_iff l m,List.cons.injEq]
 |[],_::_=>by simp[Ex.eqL]
 |_::_,[]=>by simp[Ex.eqL]
end
instance:DecidableEq Ex:=fun a b=>decidable_of_iff _ (Ex.eqB_iff a b)
theorem Ex.eq_iff{a b:Ex}:a=b↔a.Flat b∧a.args=b.args:=by
 cases a;cases b
 simp only[Ex.mk.injEq,Ex.Flat,Ex.kind,Ex.op,Ex.name,Ex.table,Ex.val,Ex.unit,Ex.param,Ex.win,Ex.args,and_assoc]
theorem sameExpr_ok(x:Ex):∀ e:Ex,Pure Tryz.prog 12 [.agg x.row,.agg e.row] (.v (.bool (decide (x=e)))):=by
 induction x using Ex.ind with
 |h x ih=>
 intro e
 have ih':=ih
 rw[Ex.row_eq x,Ex.row_eq e]
 refine Pure.runk (fun _=>0) Tryz.func12 comp12 era12 (Nat.le_of_ble_eq_true rfl) fun σ=> ?_
 repeat'(first|exact .nil|refine .k0 ?_|refine .k1 ?_|refine .k2 ?_|refine .k4 ?_|refine .k6 ?_|refine .k7 ?_|refine .k9 ?_|(refine .cd ?_ ?_<;>(intro hc;skip))|refine .r1 ?_ ?_|(refine .m1 ?_ ?_;intro b)|(refine .m2 ?_ ?_;intro hlen)|refine .an rfl (by intro hob;first|(refine(flat_ok x e).wk ?_;(repeat' first|exact .row|exact .refl _|refine .cons ?_ ?_|refine .agg ?_|fail);done)|fail) ?_ ?_|fail)
 try any_goals(exact Zo)
 all_goals(try simp only[BL]at *)
 ·refine Sx.Fin.intro Zs (bf ?_)
  intro h
  rw[h]at hc
  rcases hc with hc|hc
  ·exact hc (by unfold Ex.Flat;grind)
  ·exact hc rfl
 rename_i b0 hl0
 refine WK_loop (fun n rg σ'=>∃ i:Nat,i≤x.args.length∧n=x.args.length-i∧(∀ j,j<i→x.args.getD j default=e.args.getD j default)∧σ'=(3,b,Blk.cells e.lay)::(2,b0,Blk.cells x.lay)::σ∧rg=[(2,.lp 2 b0 0),(3,.lp 3 b 0),(5,iv i)]) x.args.length rfl ⟨_,_,Zr,Zs,0,Nat.zero_le _,rfl,fun j hj=>absurd hj (by omega),rfl,rfl⟩ ?_
 rintro n _ _ ⟨i,hi,hn,hp,rfl,rfl⟩
 repeat'(first|exact .nil|refine .k0 ?_|refine .k1 ?_|refine .k2 ?_|refine .k5 ?_|refine .k6 ?_|refine .k7 ?_|refine .k8 ?_|refine .k9 ?_|(refine .cd ?_ ?_<;>(intro hc;skip))|refine .r1 ?_ ?_|(refine .m2 ?_ ?_;intro hlen)|refine .t1 ?_ ?_ ?_|refine .an rfl (by intro hob;exact ih' (x.args.getD i default) (getD_mem (by(simp only[BL]at *;omega))) (e.args.getD i default)) ?_ ?_|fail)
 try any_goals(exact Zo)
 all_goals(try simp only[BL]at *)
 ·refine Sx.Fin.intro Zs (bf ?_)
  rintro rfl;exact hc rfl
 ·refine⟨x.args.length-(i+1),by omega,_,_,Zr,Zs,i+1,by omega,rfl,cons_lt hp hc,rfl,by rw[up1 (by omega) hlen]⟩
 ·refine Sx.Fin.intro Zs (bt ?_)
  rename_i h1
  exact Ex.eq_iff.2 ⟨h1.1,eq_of_getD (by omega) (fun j hj=>hp j (by omega))⟩
theorem bq{b c:Bool}(h:b=true↔c=true):AV.v (.bool b)=AV.v (.bool c):=by rw[Bool.eq_iff_iff.2 h]
def cnt:Str:=⟨#[99,111,117,110,116]⟩
mutual
def form:Bool→Ex→Bool
 |ins,.mk k o n t v u p w ks=>decide (nodeB (.mk k o n t v u p w ks) ins) && decide ((ks.length:Int)=nodeN (.mk k o n t v u p w ks)) && formL (ins || decide (k=5)) ks && (decide (¬(k=5∧o=cnt)) || decide (ks.getD 0 default=tru))
def formL:Bool→List Ex→Bool
 |_,[]=>true
 |ins,x::l=>form ins x && formL ins l
end
theorem formL_iff(ins:Bool):∀ l:List Ex,formL ins l=true↔∀ x∈l,form ins x=true
 |[]=>by simp[formL]
 |x::l=>by simp[formL,formL_iff ins l]
theorem form_iff(ins:Bool)(x:Ex):form ins x=true↔nodeB x ins∧(x.args.length:Int)=nodeN x∧(∀ y∈x.args,form (ins || decide (x.kind=5)) y=true)∧(x.kind=5→x.op=cnt→x.args.getD 0 default=tru):=by
 cases x
 rw[form]
 simp only[Bool.and_eq_true,Bool.or_eq_true,decide_eq_true_eq,formL_iff,Ex.args,Ex.kind,Ex.op]
 constructor
 ·rintro⟨⟨⟨h1,h2⟩,h3⟩,h4⟩
  exact⟨h1,h2,h3,fun a b=>h4.resolve_left fun h=>h ⟨a,b⟩⟩
 ·rintro⟨h1,h2,h3,h4⟩
  refine⟨⟨⟨h1,h2⟩,h3⟩,Decidable.or_iff_not_imp_left.2 fun h=> ?_⟩
  have:=Decidable.not_not.1 h
  exact h4 this.1 this.2
theorem formR_ok(x:Ex):∀ ins,Pure Tryz.prog 46 [.agg x.row,.v (.bool ins)] (.v (.bool (form ins x))):=by
 induction x using Ex.ind with
 |h x ih=>
 intro ins
 have ih':=ih
 rw[Ex.row_eq x]
 refine Pure.runk (fun _=>0) Tryz.func46 comp46 era46 (Nat.le_of_ble_eq_true rfl) fun σ=> ?_
 repeat'(first|exact .nil|refine .k0 ?_|refine .k1 ?_|refine .k2 ?_|refine .k4 ?_|refine .k6 ?_|refine .k7 ?_|refine .k9 ?_|(refine .cd ?_ ?_<;>(intro hc;skip))|refine .r1 ?_ ?_|(refine .m1 ?_ ?_;intro b)|(refine .m2 ?_ ?_;intro hlen)|refine .an rfl (by intro hob;first|(refine(nodeR_ok x ins).wk ?_;(repeat' first|exact .row|exact .refl _|refine .cons ?_ ?_|refine .agg ?_|fail);done)|fail) ?_ ?_|fail)
 try any_goals(exact Zo)
 all_goals(try simp only[BL]at *)
 ·refine Sx.Fin.intro Zs (bq ?_)
  rw[form_iff]
  grind
 refine WK_loop (fun n rg σ'=>∃ i:Nat,i≤x.args.length∧n=x.args.length-i∧(∀ j,j<i→form (ins || decide (x.kind=5)) (x.args.getD j default)=true)∧σ'=(2,b,Blk.cells x.lay)::σ∧rg=[(1,.v (.bool ins)),(2,.lp 2 b 0),(5,iv (nodeN x)),(7,iv i)]) x.args.length rfl ⟨_,_,Zr,Zs,0,Nat.zero_le _,rfl,fun j hj=>absurd hj (by omega),rfl,rfl⟩ ?_
 rintro n _ _ ⟨i,hi,hn,hp,rfl,rfl⟩
 repeat'(first|exact .nil|refine .k0 ?_|refine .k1 ?_|refine .k2 ?_|refine .k3 ?_|refine .k4 ?_|refine .k5 ?_|refine .k6 ?_|refine .k7 ?_|refine .k8 ?_|refine .k9 ?_|(refine .cd ?_ ?_<;>(intro hc;skip))|refine .r1 ?_ ?_|refine .t1 ?_ ?_ ?_|refine .an rfl (by intro hob;first|exact sameExpr_ok _ _|exact true_ok|exact ih' (x.args.getD i default) (getD_mem (by(simp only[BL]at *;omega))) _|fail) ?_ ?_|fail)
 try any_goals(exact Zo)
 all_goals(try simp only[BL]at *)
 ·refine Sx.Fin.intro Zs (bq ?_)
  rw[form_iff]
  constructor
  ·intro h;exact Bool.noConfusion h
  ·rintro⟨h1,h2,h3,h4⟩
   have:=h3 _ (getD_mem (i:=i) (by omega))
   rw[hc]at this
   exact this
 ·rename_i h1 h2
  refine⟨x.args.length-(i+1),by omega,_,_,Zr,Zs,i+1,by omega,rfl,cons_lt hp hc,rfl,?_⟩
  have:nodeN x≤3:=by unfold nodeN;repeat' split
                     all_goals omega
  rw[i64w (by omega)];rfl
 ·refine Sx.Fin.intro Zs (bq ?_)
  rw[form_iff]
  have hall:=take_all (p:=fun y=>form (ins || decide (x.kind=5)) y=true) (l:=x.args) (fun j hj=>hp j (by omega))
  show _↔_∧_∧_∧(_→x.op=(⟨#[99,111,117,110,116]⟩:Str)→_)
  grind
 ·rename_i h1
  intro h
  have h2:nodeN x=2:=by unfold nodeN;rw[if_neg (by omega),if_pos (by omega)]
  omega
set_option maxHeartbeats 4000000
def emEx(x:Ex):Ex:=⟨x.kind,⟨#[]⟩,⟨#[]⟩,⟨#[]⟩,⟨0,0,⟨#[]⟩⟩,[],0,⟨0,0⟩,[]⟩
def litEx'(x:Ex):Ex:=⟨x.kind,⟨#[]⟩,x.name,⟨#[]⟩,x.val,x.unit,0,⟨0,0⟩,[]⟩
def aggEx'(x:Ex):Ex:=⟨x.kind,x.op,⟨#[]⟩,x.table,⟨0,0,⟨#[]⟩⟩,[],x.param,x.win,[]⟩
theorem flat_lit(x:Ex)(h:x.kind=1):x.Flat (litEx x)↔x.Flat (litEx' x):=by unfold litEx litEx';rw[h]
theorem flat_agg(x:Ex)(h:x.kind=5):x.Flat (aggEx x)↔x.Flat (aggEx' x):=by unfold aggEx aggEx';rw[h]
theorem flat_em(x:Ex):x.Flat (emEx x)↔x.Flat (opEx x)∧x.op=⟨#[]⟩:=by
 show _∧x.op=⟨#[]⟩∧_↔(_∧x.op=x.op∧_)∧_
 constructor
 ·rintro⟨h1,h2,h3⟩;exact⟨⟨h1,rfl,h3⟩,h2⟩
 ·rintro⟨⟨h1, -,h3⟩,h2⟩;exact⟨h1,h2,h3⟩
theorem q_d:(⟨#[113,117,97,110,116,105,108,101]⟩:Str)≠⟨#[100,101,99,97,121]⟩:=by decide
def FormF(x:Ex)(ins:Bool):Prop:=form ins x=true↔(∀ y∈x.args,form (ins || decide (x.kind=5)) y=true)∧(x.kind=5→x.op=cnt→x.args.getD 0 default=tru)
theorem ff_false{x:Ex}{ins q:Bool}{i:Nat}(hF:FormF x ins)(hq:q=(ins || decide (x.kind=5)))(hi:i<x.args.length)(hc:form q (x.args.getD i default)=false):false=true↔form ins x=true:=by
 unfold FormF at hF
 rw[hF,← hq]
 constructor
 ·intro h;exact Bool.noConfusion h
 ·rintro⟨h, -⟩
  have:=h _ (getD_mem hi)
  rw[hc]at this
  exact this
theorem form_lit{q:Bool}{y:Ex}(h:form q y=true)(hf:y.Flat tru):y=tru:=by
 rw[form_iff]at h
 have hk:y.kind=1:=hf.1
 have hn:nodeN y=0:=by unfold nodeN;rw[if_neg (by omega),if_neg (by omega),if_neg (by omega)]
 have:y.args=[]:=List.eq_nil_of_length_eq_zero (by omega)
 exact Ex.eq_iff.2 ⟨hf,this⟩
theorem ff_all{x:Ex}{q:Bool}{i:Nat}(hi:x.args.length≤i)(hp:∀ j,j<i→form q (x.args.getD j default)=true):∀ y∈x.args,form q y=true:=take_all (p:=fun y=>form q y=true) fun j hj=>hp j (by omega)
theorem ff_end{x:Ex}{ins q:Bool}(hF:FormF x ins)(hq:q=(ins || decide (x.kind=5)))(hall:∀ y∈x.args,form q y=true)(h0:0<x.args.length)(hc:x.op=⟨#[99,111,117,110,116]⟩∧x.kind=5):decide ((x.args.getD 0 default).Flat tru)=true↔form ins x=true:=by
 unfold FormF at hF
 rw[hF,← hq,decide_eq_true_eq]
 constructor
 ·intro h;exact⟨hall,fun _ _=>form_lit (hall _ (getD_mem h0)) h⟩
 ·rintro⟨-,h⟩;rw[h hc.2 hc.1];decide
theorem ff_true{x:Ex}{ins q:Bool}(hF:FormF x ins)(hq:q=(ins || decide (x.kind=5)))(hall:∀ y∈x.args,form q y=true)(hc:¬x.op=⟨#[99,111,117,110,116]⟩∨¬x.kind=5):true=true↔form ins x=true:=by
 unfold FormF at hF
 rw[hF,← hq]
 refine⟨fun _=>⟨hall,fun h1 h2=> ?_⟩,fun _=>rfl⟩
 rcases hc with h|h
 ·exact absurd h2 h
 ·exact absurd h1 h
theorem proper_ok(x:Ex):∀ ins,Pure Tryz.prog 42 [.agg x.row,.v (.bool ins)] (.v (.bool (form ins x))):=by
 induction x using Ex.ind with
 |h x ih=>
 intro ins
 have ih':=ih
 rw[Ex.row_eq x]
 refine Pure.runk (fun _=>0) Tryz.func42 comp42 era42 (Nat.le_of_ble_eq_true rfl) fun σ=> ?_
 repeat'(first|exact .nil|refine .k0 ?_|refine .k1 ?_|refine .k2 ?_|refine .k3 ?_|refine .k4 ?_|refine .k6 ?_|refine .k7 ?_|refine .k9 ?_|(refine .cd ?_ ?_<;>(intro hc;first|exact kf hc (by assumption)|skip))|refine .r1 ?_ ?_|(refine .l1 ?_;intro b)|(refine .m1 ?_ ?_;intro b)|(refine .m2 ?_ ?_;intro hlen)|refine .an rfl (by intro hob;first|exact value_ok x.val|exact type_ok ⟨x.val.kind,x.unit,x.name⟩|exact name_ok _|exact containsS_ok aggL x.op|exact containsS_ok unL x.op|exact containsS_ok binL x.op|(refine(bare_ok x (litEx' x)).wk ?_;(repeat' first|exact .row|exact .refl _|exact .nil|refine .cons ?_ ?_|refine .agg ?_|fail);done)|(refine(bare_ok x (namEx x)).wk ?_;(repeat' first|exact .row|exact .refl _|exact .nil|refine .cons ?_ ?_|refine .agg ?_|fail);done)|(refine(bare_ok x (aggEx' x)).wk ?_;(repeat' first|exact .row|exact .refl _|exact .nil|refine .cons ?_ ?_|refine .agg ?_|fail);done)|(refine(bare_ok x (opEx x)).wk ?_;(repeat' first|exact .row|exact .refl _|exact .nil|refine .cons ?_ ?_|refine .agg ?_|fail);done)|(refine(bare_ok x (emEx x)).wk ?_;(repeat' first|exact .row|exact .refl _|exact .nil|refine .cons ?_ ?_|refine .agg ?_|fail);done)|fail) ?_ ?_|refine .r9 ?_ ?_|fail)
 try any_goals(exact Zo)
 all_goals(try simp only[BL]at *)
 all_goals first
  |(exfalso;omega)
  |(with_reducible refine Sx.Fin.intro ?_ (bq ?_)
    rotate_left
    rw[form_iff]
    have h1:=flat_lit x
    have h2:=flat_agg x
    have h3:=flat_em x
    have hqd:=q_d
    clear ih ih'
    focus grind [nodeB,nodeN,litOK,aggOK,namOK,parOK,winOK]
    repeat' first|exact .refl _|refine .cons ?_)
  |skip
 all_goals
  have hF:FormF x ins:=by
   unfold FormF
   rw[form_iff]
   have h1:=flat_lit x
   have h2:=flat_agg x
   have h3:=flat_em x
   have hqd:=q_d
   clear ih ih'
   grind [nodeB,nodeN,litOK,aggOK,namOK,parOK,winOK]
 all_goals have hN:x.kind=5→x.args.length=2:=by intro h;omega
 all_goals refine WK_loop (fun n rg σ'=>∃ (i:Nat) (q:Bool) (b0 b:Nat) (c:List AV),q=(ins || decide (x.kind=5))∧i≤x.args.length∧n=x.args.length-i∧(∀ j,j<i→form q (x.args.getD j default)=true)∧σ'=(5,b,Blk.cells c)::(2,b0,Blk.cells x.lay)::σ∧rg=[(1,.v (.bool q)),(2,.lp 2 b0 0),(186,.sl false 12 (x.args.map Ex.row)),(187,iv x.args.length),(188,iv i)]) x.args.length rfl ⟨_,_,Zr,Zs,0,_,_,_,_,by simp[*],Nat.zero_le _,rfl,fun j hj=>absurd hj (by omega),rfl,rfl⟩ ?_
 all_goals clear hlen
 all_goals rintro n _ _ ⟨i,q,b0,b,c,hq,hi,hn,hp,rfl,rfl⟩
 all_goals clear ih
 repeat'(first|exact .nil|refine .k0 ?_|refine .k1 ?_|refine .k2 ?_|refine .k4 ?_|refine .k6 ?_|refine .k7 ?_|refine .k8 ?_|refine .k9 ?_|(refine .cd ?_ ?_<;>(intro hc;skip))|refine .r1 ?_ ?_|(refine .l1 ?_;intro b)|refine .t1 ?_ ?_ ?_|refine .an rfl (by intro hob;first|(refine(bare_ok (x.args.getD 0 default) tru).wk ?_;(repeat' first|exact .refl _|exact .nil|refine .cons ?_ ?_|refine .agg ?_|fail);done)|exact ih' (x.args.getD i default) (getD_mem (by(simp only[BL]at *;omega))) _) ?_ ?_|fail)
 try any_goals(exact Zo)
 all_goals(try simp only[BL]at *)
 all_goals first
  |(with_reducible refine Sx.Fin.intro ?_ (bq ?_)
    rotate_left
    focus first
     |exact ff_false hF hq (by omega) hc
     |exact ff_end hF hq (ff_all (by omega) hp) (by omega) hc
     |exact ff_true hF hq (ff_all (by omega) hp) hc
    repeat' first|exact .refl _|refine .cons ?_)
  |(refine⟨x.args.length-(i+1),by omega,_,_,Zr,Zs,i+1,_,_,_,_,hq,by omega,rfl,cons_lt hp hc,rfl,by rw[i64w (by omega)];rfl⟩)
  |trace_state
set_option maxHeartbeats 4000000
def shape(x:Ex):Int:=if 64<x.size∨12<x.depth then 2 else if form false x=true then 0 else 3
theorem shape_ok(x:Ex)(hs:x.size≤100000):Pure Tryz.prog 11 [.agg x.row] (iv (shape x)):=by
 rw[Ex.row_eq x]
 refine Pure.runk (fun _=>0) Tryz.func11 comp11 era11 (Nat.le_of_ble_eq_true rfl) fun σ=> ?_
 repeat'(first|exact .nil|refine .k0 ?_|refine .k1 ?_|refine .k2 ?_|refine .k4 ?_|refine .k7 ?_|refine .k9 ?_|(refine .cd ?_ ?_<;>(intro hc;skip))|refine .r1 ?_ ?_|(refine .m1 ?_ ?_;intro b)|refine .an rfl (by intro hob;first|(refine(size_ok x (by first|omega|fail)).wk ?_;(repeat' first|exact .row|exact .refl _|refine .cons ?_ ?_|refine .agg ?_|fail);done)|(refine(depth_ok x (by first|omega|fail)).wk ?_;(repeat' first|exact .row|exact .refl _|refine .cons ?_ ?_|refine .agg ?_|fail);done)|(refine(proper_ok x false).wk ?_;(repeat' first|exact .row|exact .refl _|refine .cons ?_ ?_|refine .agg ?_|fail);done)|fail) ?_ ?_|fail)
 try any_goals(exact Zo)
 all_goals(try simp only[BL]at *)
 all_goals(refine Sx.Fin.intro Zs (bi ?_);unfold shape;grind)
theorem shapeR_ok(x:Ex)(hs:x.size≤100000):Pure Tryz.prog 14 [.agg x.row] (iv (shape x)):=by
 rw[Ex.row_eq x]
 refine Pure.runk (fun _=>0) Tryz.func14 comp14 era14 (Nat.le_of_ble_eq_true rfl) fun σ=> ?_
 repeat'(first|exact .nil|refine .k0 ?_|refine .k1 ?_|refine .k2 ?_|refine .k4 ?_|refine .k7 ?_|refine .k9 ?_|(refine .cd ?_ ?_<;>(intro hc;skip))|refine .r1 ?_ ?_|(refine .m1 ?_ ?_;intro b)|refine .an rfl (by intro hob;first|(refine(sizeR_ok x (by first|omega|fail)).wk ?_;(repeat' first|exact .row|exact .refl _|refine .cons ?_ ?_|refine .agg ?_|fail);done)|(refine(depthR_ok x (by first|omega|fail)).wk ?_;(repeat' first|exact .row|exact .refl _|refine .cons ?_ ?_|refine .agg ?_|fail);done)|(refine(formR_ok x false).wk ?_;(repeat' first|exact .row|exact .refl _|refine .cons ?_ ?_|refine .agg ?_|fail);done)) ?_ ?_|fail)
 try any_goals(exact Zo)
 all_goals(try simp only[BL]at *)
 all_goals(refine Sx.Fin.intro Zs (bi ?_);unfold shape;grind)
def strs:List (List AV)→Option (List Str)
 |[]=>some []
 |[.v (.string s)]::l=>(strs l).map (s::·)
 |_=>none
theorem strs_eq:∀ {l:List (List AV)} {ws:List Str},strs l=some ws→l=ws.map strRow
 |[],ws,h=>by simp only[strs,Option.some.injEq]at h;subst h;rfl
 |[.v (.string s)]::l,ws,h=>by
  simp only[strs,Option.map_eq_some_iff]at h
  obtain⟨w,h1,rfl⟩:=h
  rw[strs_eq h1];rfl
def catS:List Str→Str
 |[]=>⟨#[]⟩
 |s::l=>s++catS l
def lenS:List Str→Nat
 |[]=>0
 |s::l=>s.size+lenS l
theorem str_len(s:Str):s.data.toList.length=s.size:=rfl
theorem szl(a:Array UInt8):(⟨a⟩:Str).size=a.size:=rfl
theorem app_size(a b:Str):(a++b).size=a.size+b.size:=by rw[str_size,str_app,List.length_append];rfl
theorem catS_size:∀ l:List Str,(catS l).size=lenS l
 |[]=>rfl
 |s::l=>by rw[catS,app_size,catS_size l,lenS]
theorem inter_nil:∀ l:List (List UInt8),([]:List UInt8).intercalate l=l.flatten
 |[]=>rfl
 |[a]=>by simp[List.intercalate]
 |a::b::l=>by
  have:=inter_nil (b::l)
  simp only[List.intercalate,List.intersperse,List.flatten_cons,List.nil_append]at this ⊢
  rw[this]
theorem catS_list:∀ l:List Str,(catS l).data.toList=(l.map (·.data.toList)).flatten
 |[]=>rfl
 |s::l=>by rw[catS,str_app,catS_list l];rfl
theorem join_list(l:List Str):Lib.join (l.map (·.data.toList)) (⟨#[]⟩:Str).data.toList=(catS l).data.toList:=by
 rw[catS_list];exact inter_nil _
theorem joinS_cat(l:List Str):joinS l ⟨#[]⟩=catS l:=by
 apply str_ext
 unfold joinS
 rw[join_list]
theorem join_ok(ws:List Str)(nn:Bool)(hN:ws.length≤1000)(hl:lenS ws≤140737488355328):Pure Tryz.prog 69 [.sl nn 1 (ws.map strRow)] (sv (catS ws)):=by
 refine Pure.runk (fun _=>0) Tryz.func69 comp69 era69 (Nat.le_of_ble_eq_true rfl) fun σ=> ?_
 repeat'(first|exact .nil|refine .k0 ?_|refine .k1 ?_|refine .k2 ?_|refine .k7 ?_|refine .r1 ?_ ?_|refine .an rfl (by intro hob;(refine(joinL_ok ws ⟨#[]⟩ nn (by first|omega|fail) (by rw[join_list,← str_size,catS_size];omega)).wk ?_;(repeat' first|exact .refl _|fail);done)) ?_ ?_|fail)
 all_goals(try simp only[BL]at *)
 ·rw[joinS_cat]
  exact Zw
theorem join_ok'{nn:Bool}{l:List (List AV)}(ws:List Str)(h:strs l=some ws)(hN:ws.length≤1000)(hl:lenS ws≤140737488355328):Pure Tryz.prog 69 [.sl nn 1 l] (sv (catS ws)):=by
 rw[strs_eq h];exact join_ok ws nn hN hl
def facS(f:Fac):Str:=if f.exp=1 then f.name else f.name++(⟨#[94]⟩++itoaS f.exp)
def unitS(u:List Fac):Str:=joinS (u.map facS) ⟨#[42]⟩
theorem itoa_size(n:Int)(h: -9223372036854775808≤n∧n≤9223372036854775807):(itoaS n).size≤21:=by
 have:=Lib.itoa_length_le n h.1 h.2
 rw[str_size]
 simpa[itoaS]using this
theorem take_snoc{α:Type}[Inhabited α]{l:List α}{i:Nat}(h:i<l.length):l.take (i+1)=l.take i++[l.getD i default]:=by
 rw[getD_eq h,List.take_succ_eq_append_getElem h]
theorem inter_len(sep:List UInt8):∀ l:List (List UInt8),(sep.intercalate l).length≤l.flatten.length+l.length * sep.length
 |[]=>by simp[List.intercalate]
 |[a]=>by simp[List.intercalate]
 |a::b::l=>by
  have:=inter_len sep (b::l)
  simp only[List.intercalate,List.intersperse,List.flatten_cons,List.length_append,List.length_cons,Nat.add_mul,Nat.one_mul]at this ⊢
  omega
theorem join_len(ws:List Str)(sep:Str):(Lib.join (ws.map (·.data.toList)) sep.data.toList).length≤lenS ws+ws.length * sep.size:=by
 have:=inter_len sep.data.toList (ws.map (·.data.toList))
 rw[← catS_list,← str_size,catS_size,List.length_map]at this
 exact this
theorem lenS_map{α:Type}(g:α→Str)(c:Nat):∀ {l:List α},(∀ x∈l,(g x).size≤c)→lenS (l.map g)≤l.length * c
 |[],_=>Nat.zero_le _
 |x::l,h=>by
  have h1:=h x (by simp)
  have h2:=lenS_map g c (l:=l) fun y hy=>h y (by simp[hy])
  simp only[List.map_cons,lenS,List.length_cons,Nat.add_mul,Nat.one_mul]
  omega
def FacOK(f:Fac):Prop:=f.name.size≤24∧-8≤f.exp∧f.exp≤8∧1≤f.name.size
theorem facS_size{f:Fac}(h:FacOK f):(facS f).size≤46:=by
 unfold facS
 have:=itoa_size f.exp (by have:=h.2;omega)
 have:=h.1
 split
 ·omega
 ·rw[app_size,app_size];show _+(1+_)≤_;omega
theorem unit_len{u:List Fac}(hu:∀ f∈u,FacOK f)(hl:u.length≤4):(Lib.join ((u.map facS).map (·.data.toList)) (⟨#[42]⟩:Str).data.toList).length≤200:=by
 have h1:=join_len (u.map facS) ⟨#[42]⟩
 have h2:=lenS_map facS 46 fun f hf=>facS_size (hu f hf)
 have h3:(⟨#[42]⟩:Str).size=1:=rfl
 rw[List.length_map,h3]at h1
 omega
theorem unitS_size{u:List Fac}(hu:∀ f∈u,FacOK f)(hl:u.length≤4):(unitS u).size≤200:=unit_len hu hl
theorem rows_step{fs:List Fac}{i:Nat}(h:i<fs.length):((fs.take i).map facS).map strRow++[[.v (.string (facS (fs.getD i default)))]]=((fs.take (i+1)).map facS).map strRow:=by
 rw[take_snoc h];simp[strRow]
theorem facS_1{f:Fac}(h:f.exp=1):facS f=f.name:=if_pos h
theorem facS_n{f:Fac}(h:¬f.exp=1):facS f=f.name++(⟨#[94]⟩++itoaS f.exp):=if_neg h
theorem unitF_ok(fs:List Fac)(hu:∀ f∈fs,FacOK f)(hl:fs.length≤4):Pure Tryz.prog 150 [.sl false 2 (fs.map Fac.cells)] (sv (unitS fs)):=by
 refine Pure.runk (fun _=>0) Tryz.func150 comp150 era150 (Nat.le_of_ble_eq_true rfl) fun σ=> ?_
 repeat'(first|exact .nil|refine .k0 ?_|refine .k1 ?_|refine .k2 ?_|refine .k6 ?_|refine .r1 ?_ ?_|(refine .m2 ?_ ?_;intro hlen)|fail)
 all_goals(try simp only[BL]at *)
 refine WK_loop (fun n rg σ'=>∃ i:Nat,i≤fs.length∧n=fs.length-i∧((i=0∧σ'=σ∧rg=[(3,.v (.slice none 0 0)),(7,.sl false 2 (fs.map Fac.cells)),(8,iv fs.length),(9,iv i)])∨(0<i∧∃ b v c,σ'=(27,b,.tail v c)::σ∧rg=[(3,.own 1 27 b v c (((fs.take i).map facS).map strRow)),(7,.sl false 2 (fs.map Fac.cells)),(8,iv fs.length),(9,iv i)]))) fs.length rfl ⟨_,_,Zr,Zs,0,Nat.zero_le _,rfl,.inl ⟨rfl,rfl,rfl⟩⟩ ?_
 rintro n _ _ ⟨i,hi,hn,⟨h0,rfl,rfl⟩|⟨h0,b0,v0,c0,rfl,rfl⟩⟩
 all_goals have hf:i<fs.length→FacOK (fs.getD i default):=fun h=>hu _ (getD_mem h)
 all_goals have hz:i<fs.length→(itoaS (fs.getD i default).exp).size≤21:=fun h=>itoa_size _ (by have:=(hf h).2;omega)
 all_goals unfold FacOK at hf
 repeat'(first|exact .nil|refine .k0 ?_|refine .k1 ?_|refine .k2 ?_|refine .k6 ?_|refine .k7 ?_|refine .k8 ?_|refine .k9 ?_|(refine .cd ?_ ?_<;>(intro hc;skip))|refine .r1 ?_ ?_|(refine .l1 ?_;intro b)|refine .t1 ?_ ?_ ?_|refine .u1 ?_ ?_ ?_ (fun b u c=> ?_)|refine .u2 ?_ ?_ ?_ (fun b u c=> ?_)|refine .an rfl (by intro hob;first|exact itoa_ok _ (by(simp only[BL]at *;omega))|(refine(joinL_ok [] ⟨#[42]⟩ false (by decide) (by decide)).wk ?_;(repeat' first|exact .refl _|exact .nil|refine .cons ?_ ?_|fail);done)|(refine(joinL_ok (fs.map facS) ⟨#[42]⟩ false (by rw[List.length_map];omega) (Nat.le_trans (unit_len hu hl) (by decide))).wk (WkL.cons (Wk.ownr (by rw[List.take_of_length_le (by(simp only[BL]at *;omega))])) (WkL.cons (Wk.refl _) WkL.nil)))) ?_ ?_|(show List.all _ _=true;rfl)|fail)
 try any_goals(exact Zo)
 all_goals(try simp only[BL]at *)
 any_goals((simp only[List.length_cons,List.length_nil,List.length_append,List.length_map,List.length_take,app_size,szl,str_len,List.size_toArray];omega))
 all_goals have e:=fun h=>rows_step (fs:=fs) (i:=i) h
 ·subst h0
  rw[facS_n hc]at e
  refine⟨fs.length-(0+1),by omega,_,_,Zr,Zs,0+1,by omega,rfl,.inr ⟨by omega,_,_,_,rfl,?_⟩⟩
  rw[← e (by omega),up1 (n:=fs.length) (by omega) (by assumption)];rfl
 ·subst h0
  rw[facS_1 hc]at e
  refine⟨fs.length-(0+1),by omega,_,_,Zr,Zs,0+1,by omega,rfl,.inr ⟨by omega,_,_,_,rfl,?_⟩⟩
  rw[← e (by omega),up1 (n:=fs.length) (by omega) (by assumption)];rfl
 ·obtain rfl:fs=[]:=List.eq_nil_of_length_eq_zero (by omega)
  exact Sx.Fin.intro Zs rfl
 ·rw[facS_n hc]at e
  refine⟨fs.length-(i+1),by omega,_,_,Zr,Zs,i+1,by omega,rfl,.inr ⟨by omega,_,_,_,rfl,?_⟩⟩
  rw[← e (by omega),up1 (n:=fs.length) (by omega) (by assumption)]
 ·rw[facS_1 hc]at e
  refine⟨fs.length-(i+1),by omega,_,_,Zr,Zs,i+1,by omega,rfl,.inr ⟨by omega,_,_,_,rfl,?_⟩⟩
  rw[← e (by omega),up1 (n:=fs.length) (by omega) (by assumption)]
 ·exact Sx.Fin.intro Zs rfl
set_option maxHeartbeats 4000000
theorem app_assoc(a b c:Str):a++b++c=a++(b++c):=str_ext (by simp)
theorem app_nil(a:Str):a++(⟨#[]⟩:Str)=a:=str_ext (by simp)
theorem bs{a b:Str}(h:a=b):AV.v (.string a)=sv b:=by rw[h]
def unitT(u:List Fac):Str:=if u=[]then⟨#[]⟩else⟨#[32,91]⟩++(unitS u++⟨#[93]⟩)
theorem unitT_size{u:List Fac}(hu:∀ f∈u,FacOK f)(hl:u.length≤4):(unitT u).size≤210:=by
 have:=unitS_size hu hl
 unfold unitT
 split
 ·decide
 ·simp only[app_size,szl,List.size_toArray,List.length_cons,List.length_nil];omega
theorem len_zero{α:Type}{l:List α}:(l.length:Int)=0↔l=[]:=by cases l<;>simp<;>omega
theorem unit_ok(fs:List Fac)(hu:∀ f∈fs,FacOK f)(hl:fs.length≤4):Pure Tryz.prog 109 [.sl false 2 (fs.map Fac.cells)] (sv (unitT fs)):=by
 have hl0:= @len_zero Fac fs
 refine Pure.runk (fun _=>0) Tryz.func109 comp109 era109 (Nat.le_of_ble_eq_true rfl) fun σ=> ?_
 repeat'(first|exact .nil|refine .k0 ?_|refine .k1 ?_|refine .k2 ?_|refine .k7 ?_|refine .k9 ?_|(refine .cd ?_ ?_<;>(intro hc;skip))|refine .r1 ?_ ?_|(refine .m2 ?_ ?_;intro hlen)|refine .an rfl (by intro hob;first|exact unitF_ok fs hu hl|exact join_ok' _ rfl (Nat.le_of_ble_eq_true rfl) (by have:=unitS_size hu hl;simp only[lenS,szl,List.size_toArray,List.length_cons,List.length_nil];omega)) ?_ ?_|fail)
 all_goals(try simp only[BL]at *)
 any_goals((simp only[List.length_cons,List.length_nil,List.length_append,List.length_map,List.length_take,app_size,szl,str_len,List.size_toArray];omega))
 all_goals(simp only[hl0]at hc;refine Sx.Fin.intro Zs (bs ?_);simp[unitT,hc,catS,app_nil,app_assoc];done)
def tyS(t:Ty):Str:=
 if t.kind=1 then⟨#[98,111,111,108]⟩else if t.kind=4 then⟨#[116,101,120,116]⟩else if t.kind=5 then⟨#[107,101,121,32]⟩++t.of
 else if t.kind=2 then⟨#[105,110,116]⟩++unitT t.unit else⟨#[100,101,99]⟩++unitT t.unit
theorem kind_ok(t:Ty)(hu:∀ f∈t.unit,FacOK f)(hl:t.unit.length≤4)(ho:t.of.size≤100):Pure Tryz.prog 56 [.agg t.cells] (sv (tyS t)):=by
 have hs:=unitT_size hu hl
 refine Pure.runk (fun _=>0) Tryz.func56 comp56 era56 (Nat.le_of_ble_eq_true rfl) fun σ=> ?_
 repeat'(first|exact .nil|refine .k0 ?_|refine .k1 ?_|refine .k2 ?_|refine .k6 ?_|refine .k7 ?_|refine .k9 ?_|(refine .cd ?_ ?_<;>(intro hc;skip))|refine .r1 ?_ ?_|(refine .m1 ?_ ?_;intro b)|refine .an rfl (by intro hob;first|exact unit_ok t.unit hu hl|exact join_ok' _ rfl (Nat.le_of_ble_eq_true rfl) (by simp only[lenS,szl,List.size_toArray,List.length_cons,List.length_nil];omega)) ?_ ?_|fail)
 all_goals(try simp only[BL]at *)
 any_goals((simp only[List.length_cons,List.length_nil,List.length_append,List.length_map,List.length_take,app_size,szl,str_len,List.size_toArray];omega))
 all_goals(refine Sx.Fin.intro Zs (bs ?_);simp[unitT,tyS,catS,app_nil,app_assoc, *];done)
theorem dd_small{u:Nat}(h:u<10):Lib.decDigits u=[UInt8.ofNat (48+u)]:=by rw[Lib.decDigits,dif_pos h]
theorem dd_big{u:Nat}(h:¬u<10):Lib.decDigits u=Lib.decDigits (u / 10)++[UInt8.ofNat (48+u % 10)]:=by rw[Lib.decDigits,dif_neg h]
theorem dd_len{u:Nat}(h:u≤9223372036854775807):(Lib.decDigits u).length≤21:=by
 have:=Lib.itoa_length_le (u:Int) (by omega) (by omega)
 rwa [Lib.itoa_nonneg]at this
def lowD:Nat→Nat→List UInt8
 |0,_=>[]
 |k+1,x=>lowD k (x / 10)++[UInt8.ofNat (48+x % 10)]
theorem lowD_len:∀ (k x:Nat),(lowD k x).length=k
 |0,_=>rfl
 |k+1,x=>by rw[lowD,List.length_append,lowD_len k];rfl
def decS(x:Nat):Str:=⟨(Lib.decDigits (x / 10 ^ 6)++46::lowD 6 x).toArray⟩
theorem dd_pos(n:Nat):1≤(Lib.decDigits n).length:=by
 by_cases h:n<10
 ·rw[dd_small h];exact Nat.le_refl _
 ·rw[dd_big h,List.length_append];exact Nat.le_add_left _ _
theorem dd_split:∀ (k n:Nat),10 ^ k≤n→Lib.decDigits n=Lib.decDigits (n / 10 ^ k)++lowD k n
 |0,n,_=>by simp[lowD]
 |k+1,n,h=>by
  have h10:0<10 ^ k:=Nat.pow_pos (by omega)
  rw[Nat.pow_succ]at h
  rw[dd_big (by omega),dd_split k (n / 10) (by omega),Nat.div_div_eq_div_mul,lowD,Nat.pow_succ,Nat.mul_comm 10,List.append_assoc]
theorem dd_lt:∀ (k n:Nat),n<10 ^ (k+1)→(Lib.decDigits n).length≤k+1
 |0,n,h=>by rw[dd_small (by omega)];exact Nat.le_refl _
 |k+1,n,h=>by
  by_cases h1:n<10
  ·rw[dd_small h1];simp
  ·rw[Nat.pow_succ]at h
   have:=dd_lt k (n / 10) (by omega)
   rw[dd_big h1,List.length_append];simp only[List.length_cons,List.length_nil];omega
theorem lowD_zero:∀ k:Nat,lowD k 0=List.replicate k 48
 |0=>rfl
 |k+1=>by rw[lowD,Nat.zero_div,lowD_zero k,List.replicate_succ'];rfl
theorem dd_pad:∀ (k z n:Nat),z+(Lib.decDigits n).length=k→List.replicate z 48++Lib.decDigits n=lowD k n
 |0,z,n,h=>by have:=dd_pos n;omega
 |k+1,z,n,h=>by
  by_cases h1:n<10
  ·rw[dd_small h1]at h ⊢
   simp only[List.length_cons,List.length_nil]at h
   obtain rfl:z=k:=by omega
   rw[lowD,Nat.div_eq_of_lt h1,lowD_zero,Nat.mod_eq_of_lt h1]
  ·rw[dd_big h1]at h ⊢
   rw[List.length_append]at h
   simp only[List.length_cons,List.length_nil]at h
   rw[← List.append_assoc,dd_pad k z (n / 10) (by omega),lowD]
theorem dec_parts{n z:Nat}{L:List UInt8}(hL:L=List.replicate z 48++Lib.decDigits n)(h7:7≤L.length)(hz:z=0∨L.length≤7):L=Lib.decDigits (n / 10 ^ 6)++lowD 6 n:=by
 by_cases h:n<10 ^ 6
 ·have h1:=dd_lt 5 n h
  have hl:L.length=z+(Lib.decDigits n).length:=by rw[hL,List.length_append,List.length_replicate]
  obtain⟨y,rfl⟩:∃ y,z=y+1:=⟨z-1,by omega⟩
  rw[hL,List.replicate_succ,List.cons_append,dd_pad 6 y n (by omega),Nat.div_eq_of_lt h,dd_small (by omega)];rfl
 ·have h1:=dd_split 6 n (by omega)
  have hl:L.length=z+(Lib.decDigits n).length:=by rw[hL,List.length_append,List.length_replicate]
  have h2:=dd_pos (n / 10 ^ 6)
  have h3:=congrArg List.length h1
  rw[List.length_append,lowD_len]at h3
  have:z=0:=by omega
  subst this
  rw[hL,← h1];rfl
theorem dec_ok(n:Nat)(h:n≤1152921504606846976):Pure Tryz.prog 197 [iv n] (sv (decS n)):=by
 have hq:(Lib.decDigits n).length≤21:=dd_len (by omega)
 refine Pure.runk (fun _=>0) Tryz.func197 comp197 era197 (Nat.le_of_ble_eq_true rfl) fun σ=> ?_
 repeat'(first|exact .nil|refine .k0 ?_|refine .k1 ?_|refine .k2 ?_|refine .k3 ?_|refine .k6 ?_|refine .k9 ?_|(refine .cd ?_ ?_<;>(intro hc;skip))|refine .r1 ?_ ?_|refine .an rfl (by intro hob;exact itoa_ok _ (by first|omega|(simp only[BL]at *;omega))) ?_ ?_|refine .t6 ?_ ?_ ?_|fail)
 try any_goals(exact Zo)
 all_goals(try simp only[BL]at *)
 all_goals try(exfalso;omega)
 refine WK_loop (fun k rg σ'=>∃ (z:Nat) (s:Str),k=7-s.size∧s.data.toList=List.replicate z 48++Lib.decDigits n∧(z=0∨s.size≤7)∧σ'=σ∧rg=[(3,sv s),(4,sv ⟨#[]⟩)]) (7-(itoaS n).size) rfl ⟨_,_,Zr,Zs,0,itoaS n,rfl,by rw[itoaS,Lib.itoa_nonneg];rfl,.inl rfl,rfl,rfl⟩ ?_
 rintro k _ _ ⟨z,s,hk,hs,hz,rfl,rfl⟩
 have hl:s.size=z+(Lib.decDigits n).length:=by
  have:=congrArg List.length hs
  rwa [List.length_append,List.length_replicate]at this
 repeat'(first|exact .nil|refine .k0 ?_|refine .k1 ?_|refine .k2 ?_|refine .k5 ?_|refine .k6 ?_|refine .k7 ?_|refine .k8 ?_|refine .k9 ?_|(refine .cd ?_ ?_<;>(intro hc;skip))|refine .r1 ?_ ?_|refine .t6 ?_ ?_ ?_|fail)
 all_goals(try simp only[BL]at *)
 all_goals have hsz:s.size≤28:=by omega
 any_goals((simp only[List.length_cons,List.length_nil,List.length_append,List.length_map,List.length_take,app_size,szl,str_len,List.size_toArray];omega))
 ·refine⟨7-(s.size+1),by omega,_,_,Zr,Zs,z+1,(⟨#[48]⟩:Str)++s,by rw[app_size,szl,Nat.add_comm];rfl,by rw[str_app,hs,List.replicate_succ];rfl,.inr ?_,rfl,rfl⟩
  rw[app_size,szl];show 1+_≤_;omega
 all_goals have hcut:IntKind.i64.wrap ((s.size:Int)-6)=((s.size-6:Nat):Int):=by rw[i64w (by omega)];omega
 all_goals simp only[hcut,Int.toNat_natCast]
 any_goals omega
 any_goals(simp only[app_size,szl,ByteArray.size_extract,List.size_toArray,List.length_cons,List.length_nil];omega)
 refine Sx.Fin.intro Zs (bs (str_ext ?_))
 have hp:=dec_parts hs (by show 7≤s.size;omega) hz
 have hln:(Lib.decDigits (n / 10 ^ 6)).length=s.size-6:=by
  have:=congrArg List.length hp
  rw[List.length_append,lowD_len]at this
  have h5:s.data.toList.length=s.size:=rfl
  omega
 have e1:(ByteArray.extract s 0 (s.size-6)).data.toList=Lib.decDigits (n / 10 ^ 6):=by
  rw[ByteArray.data_extract,Array.toList_extract,List.extract_eq_take_drop,hp]
  simp[hln]
 have e2:(ByteArray.extract s (s.size-6) s.size).data.toList=lowD 6 n:=by
  rw[ByteArray.data_extract,Array.toList_extract,List.extract_eq_take_drop,hp,← hln,List.drop_left,List.take_of_length_le (by rw[lowD_len];omega)]
 simp only[str_app,e1,e2]
 simp[decS]
set_option maxHeartbeats 4000000
def boolS(n:Int):Str:=if n=1 then⟨#[116,114,117,101]⟩else⟨#[102,97,108,115,101]⟩
def intS(n:Int):Str:=⟨(Lib.decDigits n.toNat).toArray⟩
def valS(v:Val):Str:=
 if v.kind=1 then boolS v.n else if v.kind=2 then intS v.n else if v.kind=3 then decS v.n.toNat
 else if v.kind=4 then⟨#[34]⟩++(v.s++⟨#[34]⟩)else if v.kind=5 then⟨#[64]⟩++v.s else⟨#[110,117,108,108]⟩
theorem fmtBool(n:Int):(⟨(Lib.formatBool (decide (n=1))).toArray⟩:Str)=boolS n:=by
 unfold boolS
 by_cases h:n=1
 ·rw[if_pos h,decide_eq_true h];decide
 ·rw[if_neg h,decide_eq_false h];decide
theorem itoa_int{n:Int}(h:0≤n):itoaS n=intS n:=by
 obtain⟨m,rfl⟩:∃ m:Nat,n=m:=⟨n.toNat,by omega⟩
 unfold itoaS intS
 rw[Lib.itoa_nonneg];rfl
structure VOK(v:Val):Prop where
 e:valErr v=0
 n:0≤v.n
theorem VOK.kinds{v:Val}(h:VOK v):0≤v.kind∧v.kind≤5∧v.n≤1152921504606846976∧v.s.size≤64:=by
 have:=h.e
 have h0:=h.n
 unfold valErr at this
 split at this
 ·omega
 ·rename_i hf
  have hf:=Decidable.not_not.1 hf
  split at this
  ·omega
  ·rename_i hb
   have hs:v.kind≤3→v.s.size=0:=fun h=>by rw[hf.2.2.1 h];rfl
   refine⟨hf.1,hf.2.1,by omega,?_⟩
   have:=hf.2.1
   omega
theorem valS_size{v:Val}(h:VOK v):(valS v).size≤100:=by
 obtain⟨h1,h2,h3,h4⟩:=h.kinds
 have h0:=h.n
 have hd:(Lib.decDigits v.n.toNat).length≤21:=dd_len (by omega)
 have hq:(Lib.decDigits (v.n.toNat / 10 ^ 6)).length≤21:=dd_len (by omega)
 unfold valS
 repeat' split
 ·unfold boolS;split<;>decide
 ·show(Lib.decDigits v.n.toNat).toArray.size≤100
  rw[List.size_toArray];omega
 ·show(Lib.decDigits (v.n.toNat / 10 ^ 6)++46::lowD 6 v.n.toNat).toArray.size≤100
  rw[List.size_toArray,List.length_append,List.length_cons,lowD_len];omega
 ·((simp only[List.length_cons,List.length_nil,List.length_append,List.length_map,List.length_take,app_size,szl,str_len,List.size_toArray];omega))
 ·((simp only[List.length_cons,List.length_nil,List.length_append,List.length_map,List.length_take,app_size,szl,str_len,List.size_toArray];omega))
 ·decide
theorem null_ok(v:Val):Pure Tryz.prog 167 [.agg v.cells] (sv ⟨#[110,117,108,108]⟩):=by
 refine Pure.runk (fun _=>0) Tryz.func167 comp167 era167 (Nat.le_of_ble_eq_true rfl) fun σ=> ?_
 repeat'(first|exact .nil|refine .k0 ?_|refine .k1 ?_|refine .k2 ?_|refine .k7 ?_|refine .r1 ?_ ?_|(refine .m1 ?_ ?_;intro b)|fail)
 all_goals(try simp only[BL]at *)
 ·exact Sx.Fin.intro Zs rfl
theorem boolean_ok(v:Val):Pure Tryz.prog 168 [.agg v.cells] (sv (boolS v.n)):=by
 refine Pure.runk (fun _=>0) Tryz.func168 comp168 era168 (Nat.le_of_ble_eq_true rfl) fun σ=> ?_
 repeat'(first|exact .nil|refine .k0 ?_|refine .k1 ?_|refine .k2 ?_|refine .k7 ?_|refine .r1 ?_ ?_|(refine .m1 ?_ ?_;intro b)|refine .an rfl (by intro hob;first|exact formatBool_ok _|fail) ?_ ?_|fail)
 all_goals(try simp only[BL]at *)
 ·exact Sx.Fin.intro Zs (bs (fmtBool v.n))
theorem integer_ok(v:Val)(h:VOK v):Pure Tryz.prog 169 [.agg v.cells] (sv (intS v.n)):=by
 have hk:=h.kinds
 have h0:=h.n
 refine Pure.runk (fun _=>0) Tryz.func169 comp169 era169 (Nat.le_of_ble_eq_true rfl) fun σ=> ?_
 repeat'(first|exact .nil|refine .k0 ?_|refine .k1 ?_|refine .k2 ?_|refine .k7 ?_|refine .r1 ?_ ?_|(refine .m1 ?_ ?_;intro b)|refine .an rfl (by intro hob;first|exact itoa_ok _ (by first|omega|fail)|fail) ?_ ?_|fail)
 all_goals(try simp only[BL]at *)
 ·exact Sx.Fin.intro Zs (bs (itoa_int h0))
theorem decimal_ok(v:Val)(h:VOK v):Pure Tryz.prog 170 [.agg v.cells] (sv (decS v.n.toNat)):=by
 have hk:=h.kinds
 have h0:=h.n
 have hd:=dec_ok v.n.toNat (by omega)
 rw[show((v.n.toNat:Nat):Int)=v.n by omega]at hd
 refine Pure.runk (fun _=>0) Tryz.func170 comp170 era170 (Nat.le_of_ble_eq_true rfl) fun σ=> ?_
 repeat'(first|exact .nil|refine .k0 ?_|refine .k1 ?_|refine .k2 ?_|refine .k7 ?_|refine .r1 ?_ ?_|(refine .m1 ?_ ?_;intro b)|refine .an rfl (by intro hob;exact hd) ?_ ?_|fail)
 all_goals(try simp only[BL]at *)
 ·exact Sx.Fin.intro Zs rfl
theorem textV_ok(v:Val)(h:VOK v):Pure Tryz.prog 171 [.agg v.cells] (sv (⟨#[34]⟩++(v.s++⟨#[34]⟩))):=by
 have hk:=h.kinds
 refine Pure.runk (fun _=>0) Tryz.func171 comp171 era171 (Nat.le_of_ble_eq_true rfl) fun σ=> ?_
 repeat'(first|exact .nil|refine .k0 ?_|refine .k1 ?_|refine .k2 ?_|refine .k7 ?_|refine .r1 ?_ ?_|(refine .m1 ?_ ?_;intro b)|fail)
 all_goals(try simp only[BL]at *)
 any_goals((simp only[List.length_cons,List.length_nil,List.length_append,List.length_map,List.length_take,app_size,szl,str_len,List.size_toArray];omega))
 ·exact Sx.Fin.intro Zs (bs (app_assoc _ _ _))
theorem keyV_ok(v:Val)(h:VOK v):Pure Tryz.prog 172 [.agg v.cells] (sv (⟨#[64]⟩++v.s)):=by
 have hk:=h.kinds
 refine Pure.runk (fun _=>0) Tryz.func172 comp172 era172 (Nat.le_of_ble_eq_true rfl) fun σ=> ?_
 repeat'(first|exact .nil|refine .k0 ?_|refine .k1 ?_|refine .k2 ?_|refine .k7 ?_|refine .r1 ?_ ?_|(refine .m1 ?_ ?_;intro b)|fail)
 all_goals(try simp only[BL]at *)
 any_goals((simp only[List.length_cons,List.length_nil,List.length_append,List.length_map,List.length_take,app_size,szl,str_len,List.size_toArray];omega))
 ·exact Sx.Fin.intro Zs rfl
theorem Wk.vagg(vs:Array Value):Wk (.v (.agg vs)) (.agg (vs.toList.map .v)):=fun M x h=>by
 obtain rfl:=h.of_v
 have:=R.agg (M:=M) (vs.toList.map .v) vs.toList (by simp) (fun i h1 h2=>by simp only[List.getElem_map];exact .v _)
 simpa using this
theorem format_ok(v:Val)(h:VOK v):Pure Tryz.prog 125 [.agg v.cells] (sv (valS v)):=by
 have hk:=h.kinds
 have he:=h.e
 obtain⟨k,n,s⟩:=v
 have hk':k=0∨k=1∨k=2∨k=3∨k=4∨k=5:=by
  have h1:=hk.1
  have h2:=hk.2.1
  simp only at h1 h2
  omega
 rcases hk' with rfl|rfl|rfl|rfl|rfl|rfl
 all_goals refine Pure.runk (fun _=>0) Tryz.func125 comp125 era125 (Nat.le_of_ble_eq_true rfl) fun σ=> ?_
 repeat'(first|exact .nil|refine .k0 ?_|refine .k1 ?_|refine .k2 ?_|refine .k7 ?_|refine .k9 ?_|(refine .cd ?_ ?_<;>(intro hc;skip))|refine .r1 ?_ ?_|(refine .l1 ?_;intro b)|(refine .m1 ?_ ?_;intro b)|refine .an rfl (by intro hob;first|exact value_ok ⟨_,n,s⟩|exact(null_ok ⟨_,n,s⟩).wk (WkL.cons (Wk.vagg _) WkL.nil)|exact(boolean_ok ⟨_,n,s⟩).wk (WkL.cons (Wk.vagg _) WkL.nil)|exact(integer_ok _ h).wk (WkL.cons (Wk.vagg _) WkL.nil)|exact(decimal_ok _ h).wk (WkL.cons (Wk.vagg _) WkL.nil)|exact(textV_ok _ h).wk (WkL.cons (Wk.vagg _) WkL.nil)|exact(keyV_ok _ h).wk (WkL.cons (Wk.vagg _) WkL.nil)) ?_ ?_|(refine .l3 ?_;intro b)|refine .r6 ?_ ?_|refine .r7 ?_ ?_|fail)
 all_goals(try simp only[BL]at *)
 all_goals try(exfalso;exact hc he)
 all_goals exact Sx.Fin.intro Zs rfl
set_option maxHeartbeats 4000000
def rank(x:Ex):Int:=
 if x.kind=8 then 0 else if x.kind=9 then 1
 else if x.kind=6 then(if x.op=⟨#[45]⟩then 8 else if x.op=⟨#[110,111,116]⟩then 4 else 9)
 else if x.kind=7 then(if x.op=⟨#[111,114]⟩then 2 else if x.op=⟨#[97,110,100]⟩then 3 else if x.op=⟨#[43]⟩∨x.op=⟨#[45]⟩then 6 else if x.op=⟨#[42]⟩∨x.op=⟨#[47]⟩then 7 else 5)
 else 9
theorem rankX_le(x:Ex):0≤rank x∧rank x≤9:=by
 unfold rank
 repeat' split
 all_goals omega
def winT(w:Win):Str:=
 if w.kind=2 then⟨#[115,108,105,100,105,110,103,32]⟩++intS w.size else if w.kind=3 then⟨#[116,117,109,98,108,105,110,103,32]⟩++intS w.size
 else if w.kind=4 then⟨#[115,101,115,115,105,111,110,32]⟩++intS w.size else⟨#[97,108,108]⟩
def litT(x:Ex):Str:=if x.val.kind=5 then⟨#[64]⟩++(x.name++(⟨#[32,34]⟩++(x.val.s++⟨#[34]⟩)))else valS x.val++unitT x.unit
def par(s:Str):Str:=⟨#[40]⟩++(s++⟨#[41]⟩)
def atF(x:Ex)(T:Nat→Str)(i:Nat)(r:Int):Str:=if rank (x.args.getD i default)<r then par (T i)else T i
def aggT(x:Ex)(T:Nat→Str):Str:=
 x.op++(⟨#[40]⟩++(x.table++((if x.op=cnt then⟨#[]⟩else⟨#[44,32]⟩++T 0)++((if x.param=0 then⟨#[]⟩else⟨#[44,32]⟩++intS x.param)
  ++(⟨#[44,32]⟩++(winT x.win++((if x.args.getD 1 default=tru then⟨#[]⟩else⟨#[32,119,104,101,114,101,32]⟩++T 1)++⟨#[41]⟩)))))))
def unT(x:Ex)(T:Nat→Str):Str:=
 if x.op=⟨#[45]⟩then⟨#[45]⟩++atF x T 0 8 else if x.op=⟨#[110,111,116]⟩then⟨#[110,111,116,32]⟩++atF x T 0 4 else⟨#[110,117,108,108,40]⟩++(T 0++⟨#[41]⟩)
def leftR(x:Ex):Int:=if rank x=5 then 6 else rank x
def binT(x:Ex)(T:Nat→Str):Str:=atF x T 0 (leftR x)++(⟨#[32]⟩++(x.op++(⟨#[32]⟩++atF x T 1 (rank x+1))))
def ifT(x:Ex)(T:Nat→Str):Str:=⟨#[105,102,32]⟩++(T 0++(⟨#[32,116,104,101,110,32]⟩++(T 1++(⟨#[32,101,108,115,101,32]⟩++T 2))))
def defT(x:Ex)(T:Nat→Str):Str:=atF x T 0 1++(⟨#[32,100,101,102,97,117,108,116,32]⟩++atF x T 1 2)
def textF(x:Ex)(T:Nat→Str):Str:=
 if x.kind=1 then litT x else if x.kind=4 then x.name++(⟨#[32,111,102,32,40]⟩++(T 0++⟨#[41]⟩))else if x.kind=5 then aggT x T
 else if x.kind=6 then unT x T else if x.kind=7 then binT x T else if x.kind=8 then ifT x T else if x.kind=9 then defT x T else x.name
mutual
def text:Ex→Str
 | .mk k o n t v u p w ks=>textF (.mk k o n t v u p w ks) (fun i=>(textL ks).getD i ⟨#[]⟩)
def textL:List Ex→List Str
 |[]=>[]
 |x::l=>text x::textL l
end
def tx(x:Ex)(i:Nat):Str:=(textL x.args).getD i ⟨#[]⟩
theorem text_eq(x:Ex):text x=textF x (tx x):=by cases x;rfl
theorem textL_at:∀ (l:List Ex) (i:Nat),i<l.length→(textL l).getD i ⟨#[]⟩=text (l.getD i default)
 |[],_,h=>absurd h (by simp)
 |x::l,0,_=>rfl
 |x::l,i+1,h=>by
  have:=textL_at l i (by simpa using h)
  simpa[textL]using this
theorem tx_at{x:Ex}{i:Nat}(h:i<x.args.length):tx x i=text (x.args.getD i default):=textL_at _ _ h
theorem sizeL_le1{l:List Ex}(h:0<l.length):(l.getD 0 default).size≤Ex.sizeL l:=Ex.sizeL_mem (getD_mem h)
theorem sizeL_le2{l:List Ex}(h:1<l.length):(l.getD 0 default).size+(l.getD 1 default).size≤Ex.sizeL l:=by
 match l,h with
 |a::b::l,_=>simp only[Ex.sizeL,List.getD_cons_zero,List.getD_cons_succ];omega
theorem sizeL_le3{l:List Ex}(h:2<l.length):(l.getD 0 default).size+(l.getD 1 default).size+(l.getD 2 default).size≤Ex.sizeL l:=by
 match l,h with
 |a::b::c::l,_=>simp only[Ex.sizeL,List.getD_cons_zero,List.getD_cons_succ];omega
structure FOK(x:Ex)(ins:Bool):Prop where
 nb:nodeB x ins
 nn:(x.args.length:Int)=nodeN x
 sub:∀ y∈x.args,form (ins || decide (x.kind=5)) y=true
 cn:x.kind=5→x.op=cnt→x.args.getD 0 default=tru
theorem FOK.of{x:Ex}{ins:Bool}(h:form ins x=true):FOK x ins:=by
 obtain⟨h1,h2,h3,h4⟩:=(form_iff ins x).1 h
 exact⟨h1,h2,h3,h4⟩
theorem unit_facs{u:List Fac}(h:unitErr u=0):u.length≤4∧∀ f∈u,FacOK f:=by
 unfold unitErr at h
 split at h
 ·omega
 ·rename_i hl
  refine⟨by omega,?_⟩
  have:∀ (l:List Fac) (p:Option Str),unitErrL p l=0→∀ f∈l,FacOK f:=by
   intro l
   induction l with
   |nil=>intro p _ f hf;cases hf
   |cons g l ih=>
    intro p hp f hf
    rw[unitErrL]at hp
    split at hp
    ·rename_i h0
     rcases List.mem_cons.1 hf with rfl|hf
     ·unfold facErr at h0
      split at h0
      ·omega
      ·rename_i hw
       have hw:=Decidable.not_not.1 hw
       split at h0
       ·omega
       ·exact⟨hw.2.1,by omega,by omega,hw.1⟩
     ·exact ih _ hp f hf
    ·rename_i h0;exact absurd hp h0
  exact this u none h
theorem tyErr_unit{t:Ty}(h:tyErr t=0):t.unit.length≤4∧(∀ f∈t.unit,FacOK f)∧t.of.size≤24:=by
 unfold tyErr at h
 split at h
 ·omega
 ·rename_i h3
  split at h
  ·omega
  ·rename_i h70
   have hu:unitErr t.unit=0:=Decidable.not_not.1 fun h'=>h70 (.inl h')
   obtain⟨h1,h2⟩:=unit_facs hu
   refine⟨h1,h2,?_⟩
   by_cases hk:t.kind=5
   ·have:Name t.of:=Decidable.not_not.1 fun h'=>h3 (.inr (.inr (.inr (.inl ⟨hk,h'⟩))))
    exact this.1.2.1
   ·have:t.of=⟨#[]⟩:=Decidable.not_not.1 fun h'=>h3 (.inr (.inr (.inr (.inr ⟨hk,h'⟩))))
    rw[this];decide
theorem intS_size{n:Int}(h:n≤1152921504606846976):(intS n).size≤21:=by
 show(Lib.decDigits n.toNat).toArray.size≤21
 rw[List.size_toArray];exact dd_len (by omega)
theorem litT_size{x:Ex}(h:litOK x):(litT x).size≤400:=by
 obtain⟨h1,h2,h3,h4⟩:=h
 have hv:VOK x.val:=⟨h1,h2⟩
 have hk:=hv.kinds
 have hs:=valS_size hv
 obtain⟨hl,hu,ho⟩:=tyErr_unit h3
 have hu:(unitT x.unit).size≤210:=unitT_size hu hl
 simp only at ho
 unfold litT
 split
 ·((simp only[List.length_cons,List.length_nil,List.length_append,List.length_map,List.length_take,app_size,szl,str_len,List.size_toArray];omega))
 ·simp only[app_size];omega
theorem winT_size{w:Win}(h:winOK w):(winT w).size≤40:=by
 have:= @intS_size w.size (by unfold winOK at h;omega)
 unfold winT
 repeat' split
 all_goals first|decide|((simp only[List.length_cons,List.length_nil,List.length_append,List.length_map,List.length_take,app_size,szl,str_len,List.size_toArray];omega))
theorem aggL_size:∀ s∈aggL,s.size≤8:=by decide
theorem binL_size:∀ s∈binL,s.size≤8:=by decide
theorem atF_size{x:Ex}{T:Nat→Str}{i:Nat}{r:Int}:(atF x T i r).size≤(T i).size+2:=by
 unfold atF par;split
 ·((simp only[List.length_cons,List.length_nil,List.length_append,List.length_map,List.length_take,app_size,szl,str_len,List.size_toArray];omega))
 ·omega
theorem text_size(x:Ex):∀ ins,form ins x=true→(text x).size≤500 * x.size:=by
 induction x using Ex.ind with
 |h x ih=>
 intro ins hf
 have h:=FOK.of hf
 have hT:∀ i,i<x.args.length→(tx x i).size≤500 * (x.args.getD i default).size:=fun i hi=>by
  rw[tx_at hi];exact ih _ (getD_mem hi) _ (h.sub _ (getD_mem hi))
 have hs:=Ex.size_args x
 have hb:=h.nb
 have hn:=h.nn
 have hn3:=hn
 rw[text_eq]
 unfold textF
 unfold nodeN at hn
 by_cases h1:x.kind=1
 ·rw[if_pos h1]
  have:=litT_size (x:=x) (by unfold nodeB at hb;rwa [if_pos h1]at hb)
  omega
 rw[if_neg h1]
 by_cases h4:x.kind=4
 ·rw[if_pos h4]
  rw[if_pos (.inl h4)]at hn
  have hN:namOK x:=by unfold nodeB at hb;rw[if_neg (by omega),if_neg (by omega),if_pos (.inr h4)]at hb;exact hb.2
  have h5:=hN.1.1.2.1
  have h6:=hT 0 (by omega)
  have h7:=sizeL_le1 (l:=x.args) (by omega)
  ((simp only[List.length_cons,List.length_nil,List.length_append,List.length_map,List.length_take,app_size,szl,str_len,List.size_toArray];omega))
 rw[if_neg h4]
 by_cases h5:x.kind=5
 ·rw[if_pos h5]
  rw[if_neg (by omega),if_pos (.inl h5)]at hn
  have hA:aggOK x:=by unfold nodeB at hb;rw[if_neg (by omega),if_neg (by omega),if_neg (by omega),if_pos h5]at hb;exact hb.2
  obtain⟨⟨y,hy,ho⟩,ht,hw,hp, -⟩:=hA
  have e1:=aggL_size y hy
  rw[← ho]at e1
  have e2:=ht.1.2.1
  have e3:=winT_size hw
  have e4:(intS x.param).size≤21:=intS_size (by unfold parOK at hp;repeat' split at hp
                                                all_goals omega)
  have e6:=hT 0 (by omega)
  have e7:=hT 1 (by omega)
  have e8:=sizeL_le2 (l:=x.args) (by omega)
  have a1:(if x.op=cnt then(⟨#[]⟩:Str)else⟨#[44,32]⟩++tx x 0).size≤2+(tx x 0).size:=by
   split
   ·rw[szl];exact Nat.zero_le _
   ·rw[app_size,szl];exact Nat.le_refl _
  have a2:(if x.param=0 then(⟨#[]⟩:Str)else⟨#[44,32]⟩++intS x.param).size≤23:=by
   split
   ·decide
   ·rw[app_size,szl];show 2+_≤_;omega
  have a3:(if x.args.getD 1 default=tru then(⟨#[]⟩:Str)else⟨#[32,119,104,101,114,101,32]⟩++tx x 1).size≤7+(tx x 1).size:=by
   split
   ·rw[szl];exact Nat.zero_le _
   ·rw[app_size,szl];exact Nat.le_refl _
  unfold aggT
  ((simp only[List.length_cons,List.length_nil,List.length_append,List.length_map,List.length_take,app_size,szl,str_len,List.size_toArray];omega))
 rw[if_neg h5]
 by_cases h6:x.kind=6
 ·rw[if_pos h6]
  rw[if_pos (.inr h6)]at hn
  have e6:=hT 0 (by omega)
  have e7:=sizeL_le1 (l:=x.args) (by omega)
  have e8:= @atF_size x (tx x) 0 8
  have e9:= @atF_size x (tx x) 0 4
  unfold unT
  repeat' split
  all_goals((simp only[List.length_cons,List.length_nil,List.length_append,List.length_map,List.length_take,app_size,szl,str_len,List.size_toArray];omega))
 rw[if_neg h6]
 by_cases h7:x.kind=7
 ·rw[if_pos h7]
  rw[if_neg (by omega),if_pos (.inr (.inl h7))]at hn
  have hB:∃ y∈binL,x.op=y:=by unfold nodeB at hb;rw[if_neg (by omega),if_neg (by omega),if_neg (by omega),if_neg (by omega),if_neg (by omega),if_pos h7]at hb;exact hb.2
  obtain⟨y,hy,ho⟩:=hB
  have e1:=binL_size y hy
  rw[← ho]at e1
  have e6:=hT 0 (by omega)
  have e7:=hT 1 (by omega)
  have e8:=sizeL_le2 (l:=x.args) (by omega)
  have e9:= @atF_size x (tx x) 0 (leftR x)
  have e10:= @atF_size x (tx x) 1 (rank x+1)
  unfold binT
  ((simp only[List.length_cons,List.length_nil,List.length_append,List.length_map,List.length_take,app_size,szl,str_len,List.size_toArray];omega))
 rw[if_neg h7]
 by_cases h8:x.kind=8
 ·rw[if_pos h8]
  rw[if_neg (by omega),if_neg (by omega),if_pos h8]at hn
  have e6:=hT 0 (by omega)
  have e7:=hT 1 (by omega)
  have e5:=hT 2 (by omega)
  have e8:=sizeL_le3 (l:=x.args) (by omega)
  unfold ifT
  ((simp only[List.length_cons,List.length_nil,List.length_append,List.length_map,List.length_take,app_size,szl,str_len,List.size_toArray];omega))
 rw[if_neg h8]
 by_cases h9:x.kind=9
 ·rw[if_pos h9]
  rw[if_neg (by omega),if_pos (.inr (.inr h9))]at hn
  have e6:=hT 0 (by omega)
  have e7:=hT 1 (by omega)
  have e8:=sizeL_le2 (l:=x.args) (by omega)
  have e9:= @atF_size x (tx x) 0 1
  have e10:= @atF_size x (tx x) 1 2
  unfold defT
  ((simp only[List.length_cons,List.length_nil,List.length_append,List.length_map,List.length_take,app_size,szl,str_len,List.size_toArray];omega))
 rw[if_neg h9]
 have hN:namOK x:=by
  unfold nodeB at hb
  rw[if_neg h1]at hb
  split at hb
  ·exact hb.2
  ·split at hb
   ·exact hb.2
   ·rw[if_neg (by omega)]at hb;exact hb.elim
 have h5:=hN.1.1.2.1
 omega
end Go.Proofs.YtbihckigennlhaaGreatDoor
