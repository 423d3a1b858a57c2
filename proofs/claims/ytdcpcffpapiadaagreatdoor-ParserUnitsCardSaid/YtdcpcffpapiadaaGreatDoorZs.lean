/- Same units, types, expressions, tables, features: of one and the same. -/
import Derived.Test.YtdcpcffpapiadaaGreatDoorTf
import Derived.Test.YtdcpcffpapiadaaGreatDoorTz
import Derived.Test.YtdcpcffpapiadaaGreatDoorSxZ
import Derived.Test.YtdcpcffpapiadaaGreatDoorZb
set_option linter.unusedSimpArgs false
set_option linter.unusedVariables false
set_option maxRecDepth 100000
set_option maxHeartbeats 4000000
namespace Go.Proofs.YtdcpcffpapiadaaGreatDoor
open Go.Sx Go.Proofs
theorem sameUnit_t(u:List Fac):Pure Tryz.prog 39 [.sl false 2 (u.map Fac.cells),.sl false 2 (u.map Fac.cells)] (.v (.bool true)):=by
 refine Pure.runk (fun _=>0) Tryz.func39 comp39 era39 (Nat.le_of_ble_eq_true rfl) fun σ=> ?_
 repeat'(first|exact .nil|refine .k0 ?_|refine .k1 ?_|refine .k2 ?_|refine .k6 ?_|refine .k7 ?_|refine .k9 ?_|(refine .cd ?_ ?_<;>(intro hc;skip))|refine .r1 ?_ ?_|(refine .m2 ?_ ?_;intro hlen)|fail)
 all_goals(try simp only[BL]at *)
 all_goals first|(exfalso;exact hc trivial)|skip
 refine WK_loop (fun n rg σ'=>∃ i:Nat,i≤u.length∧n=u.length-i∧σ'=σ∧rg=[(0,.sl false 2 (u.map Fac.cells)),(1,.sl false 2 (u.map Fac.cells)),(5,iv i)]) u.length rfl ⟨_,_,Zr,Zs,0,Nat.zero_le _,rfl,rfl,rfl⟩ ?_
 rintro n _ _ ⟨i,hi,hn,rfl,rfl⟩
 repeat'(first|exact .nil|refine .k0 ?_|refine .k1 ?_|refine .k2 ?_|refine .k5 ?_|refine .k6 ?_|refine .k7 ?_|refine .k8 ?_|refine .k9 ?_|(refine .cd ?_ ?_<;>(intro hc;skip))|refine .r1 ?_ ?_|(refine .m2 ?_ ?_;intro hlen)|refine .t1 ?_ ?_ ?_|fail)
 try any_goals(exact Zo)
 all_goals(try simp only[BL]at *)
 all_goals first|(exfalso;simp at hc;done)|(refine⟨u.length-(i+1),by omega,_,_,Zr,Zs,i+1,by omega,rfl,rfl,by rw[up1 (n:=u.length) (by omega) (by assumption)]⟩)|(show Sx.Fin _ _ _ _;(refine Sx.Fin.wk Zs ?_;repeat' first|exact .refl _|fail);done)|fail
theorem sameType_t(t:Ty):Pure Tryz.prog 37 [.agg t.cells,.agg t.cells] (.v (.bool true)):=by
 refine Pure.runk (fun _=>0) Tryz.func37 comp37 era37 (Nat.le_of_ble_eq_true rfl) fun σ=> ?_
 repeat'(first|exact .nil|refine .k0 ?_|refine .k1 ?_|refine .k2 ?_|refine .k4 ?_|refine .k7 ?_|refine .r1 ?_ ?_|(refine .m1 ?_ ?_;intro b)|refine .an rfl (by intro hob;exact sameUnit_t _) ?_ ?_|fail)
 all_goals(try simp only[BL]at *)
 show Sx.Fin _ (AV.v (Value.bool true)) (AV.v (Value.bool true)) _
 exact Zw
def Ex.lay(x:Ex):List AV:=[iv x.kind,sv x.op,sv x.name,sv x.table,iv x.val.kind,iv x.val.n,sv x.val.s,.sl false 2 (x.unit.map Fac.cells),iv x.param,iv x.win.kind,iv x.win.size,.sl false 12 (x.args.map Ex.row)]
theorem Ex.sizeL_get:∀ (l:List Ex) (k:Nat),k<l.length→(l.getD k default).size≤Ex.sizeL l
 |[],k,h=>absurd h (by simp)
 |a::l,0,_=>by simp[Ex.sizeL]
 |a::l,k+1,h=>by have:=Ex.sizeL_get l k (by simpa using h);simp only[List.getD_cons_succ,Ex.sizeL];omega
theorem Ex.size_arg(x:Ex){k:Nat}(hk:k<x.args.length):(x.args.getD k default).size<x.size:=by
 have h1:=Ex.sizeL_get x.args k hk
 cases x;simp only[Ex.size,Ex.args]at *;omega
def SameX(x:Ex):Prop:=Pure Tryz.prog 16 [.agg x.row,.agg x.row] (.v (.bool true))
theorem sameX_step(x:Ex)(ih:∀ i,i<x.args.length→SameX (x.args.getD i default)):SameX x:=by
 unfold SameX
 rw[Ex.row_eq x]
 refine Pure.runk (fun _=>0) Tryz.func16 comp16 era16 (Nat.le_of_ble_eq_true rfl) fun σ=> ?_
 repeat'(first|exact .nil|refine .k0 ?_|refine .k1 ?_|refine .k2 ?_|refine .k4 ?_|refine .k6 ?_|refine .k7 ?_|refine .k9 ?_|(refine .cd ?_ ?_<;>(intro hc;skip))|refine .r1 ?_ ?_|(refine .m1 ?_ ?_;intro b)|(refine .m2 ?_ ?_;intro hlen)|refine .an rfl (by intro hob;exact sameUnit_t _) ?_ ?_|fail)
 try any_goals(exact Zo)
 all_goals(try simp only[BL]at *)
 ·exfalso;simp at hc
 clear hc
 rename_i b2 _
 refine WK_loop (fun n rg σ'=>∃ i:Nat,i≤x.args.length∧n=x.args.length-i∧σ'=(3,b,Blk.cells x.lay)::(2,b2,Blk.cells x.lay)::σ∧rg=[(2,.lp 2 b2 0),(3,.lp 3 b 0),(5,iv i)]) x.args.length rfl ⟨_,_,Zr,Zs,0,Nat.zero_le _,rfl,rfl,rfl⟩ ?_
 rintro n _ _ ⟨i,hi,hn,rfl,rfl⟩
 have hA:i<x.args.length→Pure Tryz.prog 16 [.agg (x.args.getD i default).row,.agg (x.args.getD i default).row] (.v (.bool true)):=ih i
 repeat'(first|exact .nil|refine .k0 ?_|refine .k1 ?_|refine .k2 ?_|refine .k5 ?_|refine .k6 ?_|refine .k7 ?_|refine .k8 ?_|refine .k9 ?_|(refine .cd ?_ ?_<;>(intro hc;skip))|refine .r1 ?_ ?_|(refine .m2 ?_ ?_;intro hlen)|refine .t1 ?_ ?_ ?_|refine .an rfl (by intro hob;first|exact hA (by(simp only[BL]at *;omega))|fail) ?_ ?_|fail)
 try any_goals(exact Zo)
 all_goals(try simp only[BL]at *)
 all_goals first|(exfalso;simp at hc;done)|(refine⟨x.args.length-(i+1),by omega,_,_,Zr,Zs,i+1,by omega,rfl,rfl,by rw[up1 (n:=x.args.length) (by omega) (by assumption)]⟩)|(show Sx.Fin _ _ _ _;(refine Sx.Fin.wk Zs ?_;repeat' first|exact .refl _|fail);done)|fail
theorem sameX_all:∀ (n:Nat) (x:Ex),x.size≤n→SameX x
 |0,x,h=>by cases x;simp[Ex.size]at h
 |n+1,x,h=>sameX_step x fun k hk=>sameX_all n _ (by have:=Ex.size_arg x hk;omega)
theorem sameX_t(x:Ex):Pure Tryz.prog 16 [.agg x.row,.agg x.row] (.v (.bool true)):=sameX_all x.size x (Nat.le_refl _)
theorem sameTab_t(t:Tab):Pure Tryz.prog 38 [.agg t.cells,.agg t.cells] (.v (.bool true)):=by
 refine Pure.runk (fun _=>0) Tryz.func38 comp38 era38 (Nat.le_of_ble_eq_true rfl) fun σ=> ?_
 repeat'(first|exact .nil|refine .k0 ?_|refine .k1 ?_|refine .k2 ?_|refine .k4 ?_|refine .k6 ?_|refine .k7 ?_|refine .k9 ?_|(refine .cd ?_ ?_<;>(intro hc;skip))|refine .r1 ?_ ?_|(refine .m1 ?_ ?_;intro b)|(refine .m2 ?_ ?_;intro hlen)|fail)
 try any_goals(exact Zo)
 all_goals(try simp only[BL]at *)
 ·exfalso;simp at hc
 clear hc
 rename_i b2 _
 refine WK_loop (fun n rg σ'=>∃ i:Nat,i≤t.fields.length∧n=t.fields.length-i∧σ'=(3,b,Blk.cells t.cells)::(2,b2,Blk.cells t.cells)::σ∧rg=[(2,.lp 2 b2 0),(3,.lp 3 b 0),(5,iv i)]) t.fields.length rfl ⟨_,_,Zr,Zs,0,Nat.zero_le _,rfl,rfl,rfl⟩ ?_
 rintro n _ _ ⟨i,hi,hn,rfl,rfl⟩
 repeat'(first|exact .nil|refine .k0 ?_|refine .k1 ?_|refine .k2 ?_|refine .k3 ?_|refine .k4 ?_|refine .k5 ?_|refine .k6 ?_|refine .k7 ?_|refine .k8 ?_|refine .k9 ?_|(refine .cd ?_ ?_<;>(intro hc;skip))|refine .r1 ?_ ?_|(refine .m2 ?_ ?_;intro hlen)|refine .t1 ?_ ?_ ?_|refine .an rfl (by intro hob;exact sameType_t (t.fields.getD i default).type) ?_ ?_|fail)
 try any_goals(exact Zo)
 all_goals(try simp only[BL]at *)
 all_goals first|(exfalso;exact hc trivial)|(refine⟨t.fields.length-(i+1),by omega,_,_,Zr,Zs,i+1,by omega,rfl,rfl,by rw[up1 (n:=t.fields.length) (by omega) (by assumption)]⟩)|(show Sx.Fin _ _ _ _;(refine Sx.Fin.wk Zs ?_;repeat' first|exact .refl _|fail);done)|fail
end Go.Proofs.YtdcpcffpapiadaaGreatDoor
set_option linter.unusedSectionVars false
namespace Go.Proofs.YtdcpcffpapiadaaGreatDoor
open Go.Sx Go.Proofs
open Go.Sort (swp)
def flD(l:List Prb)(d:Array Nat):List AV:=(d.toList.map fun x=>(nth l x).cells).flatten
theorem fl_len(l:List Prb):∀ L:List Nat,((L.map fun x=>(nth l x).cells).flatten).length=L.length * 2
 |[]=>rfl
 |x::L=>by rw[List.map_cons,List.flatten_cons,List.length_append,fl_len l L,List.length_cons];show 2+_=_;omega
theorem flD_len(l:List Prb)(d:Array Nat):(flD l d).length=d.size * 2:=by unfold flD;rw[fl_len,Array.length_toList]
theorem fl_get(l:List Prb):∀ (L:List Nat) (post:List AV) (k:Nat),k<L.length→((((L.map fun x=>(nth l x).cells).flatten)++post).drop (k * 2)).take 2=(nth l (L.getD k default)).cells
 |x::L,post,0,_=>rfl
 |x::L,post,k+1,h=>by
  rw[List.map_cons,List.flatten_cons,List.append_assoc,show(k+1) * 2=(nth l x).cells.length+k * 2 by show _=2+_;omega,List.drop_append]
  rw[List.drop_of_length_le (by omega),List.nil_append,Nat.add_sub_cancel_left]
  exact fl_get l L post k (by simpa using h)
theorem flD_get{l:List Prb}{d:Array Nat}{post:List AV}{o k:Nat}(h:k<d.size)(ho:o=k * 2):((flD l d++post).drop o).take 2=(nth l d[k]!).cells∧o+2≤(flD l d++post).length:=by
 subst ho
 constructor
 ·unfold flD
  rw[fl_get l d.toList post k (by simpa using h)]
  simp[Array.getElem!_eq_getD,Array.getD_eq_getD_getElem?,List.getD_eq_getElem?_getD]
 ·rw[List.length_append,flD_len];omega
theorem over_app(A B c:List AV)(j:Nat):over (A++B) (A.length+j) c=A++over B j c:=by
 unfold over
 rw[List.take_append,List.take_of_length_le (by omega),Nat.add_sub_cancel_left,Nat.add_assoc,List.drop_append,List.drop_of_length_le (by omega),List.nil_append,Nat.add_sub_cancel_left]
 simp only[List.append_assoc]
theorem fl_set(l:List Prb):∀ (L:List Nat) (post:List AV) (k x:Nat),k<L.length→over (((L.map fun x=>(nth l x).cells).flatten)++post) (k * 2) (nth l x).cells=(((L.set k x).map fun x=>(nth l x).cells).flatten)++post
 |y::L,post,0,x,_=>rfl
 |y::L,post,k+1,x,h=>by
  have e:(k+1) * 2=(nth l y).cells.length+k * 2:=by show _=2+_;omega
  rw[List.map_cons,List.flatten_cons,List.append_assoc,List.set_cons_succ,List.map_cons,List.flatten_cons,List.append_assoc,e,over_app,fl_set l L post k x (by simpa using h)]
theorem flD_set{l:List Prb}{d:Array Nat}{post:List AV}{o k:Nat}(h:k<d.size)(ho:o=k * 2)(x:Nat):over (flD l d++post) o (nth l x).cells=flD l (d.setIfInBounds k x)++post∧o+2≤(flD l d++post).length:=by
 subst ho
 constructor
 ·unfold flD
  rw[fl_set l d.toList post k x (by simpa using h)]
  simp
 ·rw[List.length_append,flD_len];omega
abbrev prbA(p:Prb):AV:= .agg p.cells
def SrtS(f:FuncId)(ys:List AV)(l:List Prb)(z:Nat)(d d':Array Nat):Prop:=∀ (b cap:Nat) (post:List AV) (τ:Store),Sx.Spec Tryz.prog f (.ms 12 b 0 z cap::ys) ((12,b,.cells (flD l d++post))::τ) fun x σ'=>x= .ret (.tup [])∧σ'=(12,b,.cells (flD l d'++post))::τ
theorem swapRange_ok(l:List Prb)(d:Array Nat)(z:Nat)(hzz:d.size=z)(a m n:Nat)(g:AV)(ha:a+n≤d.size)(hm:m+n≤d.size)(hz:d.size≤1000000):SrtS 159 [iv a,iv m,iv n,g] l z d (srS a m n d):=by
 intro b cap post τ
 subst hzz
 refine Spec.runk (fun _=>0) Tryz.func159 comp159 era159 (Nat.le_of_ble_eq_true rfl) ?_
 repeat'(first|exact .nil|refine .k0 ?_|refine .k1 ?_|refine .k2 ?_|refine .k6 ?_|refine .r1 ?_ ?_|fail)
 all_goals(try simp only[BL]at *)
 refine WK_loop (fun q rg σ'=>∃ (i:Nat) (d':Array Nat),i≤n∧q=n-i∧d'.size=d.size∧srL a m (n-i) i d'=srS a m n d∧σ'=(12,b,.cells (flD l d'++post))::τ∧rg=[(0,.ms 12 b 0 d.size cap),(1,iv a),(2,iv m),(3,iv n),(10,iv i)]) n rfl ⟨_,_,Zr,Zs,0,d,Nat.zero_le _,rfl,rfl,rfl,rfl,rfl⟩ ?_
 rintro q _ _ ⟨i,d',hi,hq,hs,hd,rfl,rfl⟩
 have hw:IntKind.i64.wrap ((m:Int)+(i:Int))=((m+i:Nat):Int):=by rw[i64w (by omega)];rfl
 have hv:IntKind.i64.wrap ((a:Int)+(i:Int))=((a+i:Nat):Int):=by rw[i64w (by omega)];rfl
 repeat'(first|exact .nil|refine .k0 ?_|refine .k1 ?_|refine .k2 ?_|refine .k3 ?_|refine .k6 ?_|refine .k8 ?_|refine .k9 ?_|(refine .cd ?_ ?_<;>(intro hc;skip))|refine .r1 ?_ ?_|refine .r2 ?_ ?_|refine .r8 ?_ ?_|fail)
 ·rw[hw];have:=of_decide_eq_true hc;omega
 ·refine VY_lda rfl (by rfl) rfl (by first|exact flD_get (k:=m+i) (by have:=of_decide_eq_true hc;omega) (by rw[hw];omega)|fail) (by rfl) .nil ?_
  repeat'(first|exact .nil|refine .k1 ?_|refine .r1 ?_ ?_|refine .r8 ?_ ?_|fail)
  ·rw[hv];have:=of_decide_eq_true hc;omega
  refine VY_lda rfl (by rfl) rfl (by first|exact flD_get (k:=a+i) (by have:=of_decide_eq_true hc;omega) (by rw[hv];omega)|fail) (by rfl) .nil ?_
  repeat'(first|exact .nil|refine .r1 ?_ ?_|refine .r8 ?_ ?_|fail)
  ·rw[hv];have:=of_decide_eq_true hc;omega
  refine VY_st rfl rfl (by rfl) rfl (by rfl) (by exact flD_set (k:=a+i) (by have:=of_decide_eq_true hc;omega) (by rw[hv];omega) _) (by rfl) .nil ?_
  repeat'(first|exact .nil|refine .r1 ?_ ?_|refine .r8 ?_ ?_|fail)
  ·rw[hw];have:=of_decide_eq_true hc;omega
  refine VY_st rfl rfl (by rfl) rfl (by rfl) (by first|exact flD_set (k:=m+i) (by have:=of_decide_eq_true hc;(rw[Array.size_setIfInBounds];omega)) (by rw[hw];omega) _|fail) (by rfl) .nil ?_
  repeat'(first|exact .nil|refine .k0 ?_|refine .k1 ?_|refine .k2 ?_|refine .r1 ?_ ?_|fail)
  have hi1:i<n:=by have:=of_decide_eq_true hc;omega
  rw[upt_hd,upt_hd]
  rw[show n-i=(n-(i+1))+1 by omega,srL]at hd
  refine⟨n-(i+1),by omega,_,_,Zr,Zs,i+1,swp d' (a+i) (m+i),by omega,rfl,by rw[size_swp'];exact hs,hd,rfl,by rw[i64w (by omega)];rfl⟩
 ·have hin:i=n:=by have:=of_decide_eq_false hc;omega
  subst hin
  rw[Nat.sub_self,srL]at hd
  rw[hd]
  exact⟨rfl,rfl⟩
abbrev cmpV:Value:= .func (.func 27) #[] #[]
theorem wsub{a b:Nat}(h:b≤a)(ha:a≤4000000):IntKind.i64.wrap ((a:Int)-(b:Int))=((a-b:Nat):Int):=by rw[i64w (by omega)];omega
theorem wadd{a b:Nat}(ha:a+b≤4000000):IntKind.i64.wrap ((a:Int)+(b:Int))=((a+b:Nat):Int):=by rw[i64w (by omega)];rfl
theorem rotate_ok(l:List Prb)(d:Array Nat)(z:Nat)(hzz:d.size=z)(a m e:Nat)(ha:a<m)(hm:m<e)(he:e≤d.size)(hz:d.size≤1000000):SrtS 127 [iv a,iv m,iv e,.v cmpV] l z d (rotL m (e-a) (m-a) (e-m) d):=by
 intro b cap post τ
 subst hzz
 refine Spec.runk (fun _=>0) Tryz.func127 comp127 era127 (Nat.le_of_ble_eq_true rfl) ?_
 repeat'(first|exact .nil|refine .k0 ?_|refine .k1 ?_|refine .k2 ?_|refine .k6 ?_|refine .r1 ?_ ?_|fail)
 refine WK_loop (fun q rg σ'=>∃ (i j:Nat) (d':Array Nat),1≤i∧1≤j∧i≤m∧m+j≤d.size∧i+j≤q∧d'.size=d.size∧rotL m q i j d'=rotL m (e-a) (m-a) (e-m) d∧σ'=(12,b,.cells (flD l d'++post))::τ∧rg=[(0,.ms 12 b 0 d.size cap),(2,iv m),(4,.v cmpV),(10,iv i),(11,iv j)]) (e-a) rfl ⟨_,_,Zr,Zs,m-a,e-m,d,by omega,by omega,by omega,by omega,by omega,rfl,rfl,rfl,by rw[wsub (by omega) (by omega),wsub (by omega) (by omega)]⟩ ?_
 rintro q _ _ ⟨i,j,d',hi,hj,him,hjm,hq,hs,hd,rfl,rfl⟩
 repeat'(first|exact .nil|refine .k0 ?_|refine .k1 ?_|refine .k2 ?_|refine .k6 ?_|refine .k8 ?_|refine .k9 ?_|(refine .cd ?_ ?_<;>(intro hc;skip))|refine .r1 ?_ ?_|fail)
 all_goals(try simp only[BL]at *)
 ·rw[wsub (by omega) (by omega)]
  refine VX_spec rfl (swapRange_ok l d' d.size hs (m-i) m j _ (by omega) (by omega) (by omega) b cap post τ) .nil (fun x σ' hR=> ?_) (fun ch σ' hR=> ?_)
  ·obtain⟨e1,rfl⟩:=hR
   cases e1
   repeat'(first|exact .nil|refine .k0 ?_|refine .k1 ?_|refine .k2 ?_|refine .r1 ?_ ?_|fail)
   obtain⟨q,rfl⟩:∃ p,q=p+1:=⟨q-1,by omega⟩
   rw[rotL,if_neg (by omega),if_pos (by omega)]at hd
   refine⟨q,by omega,_,_,Zr,Zs,i-j,j,srS (m-i) m j d',by omega,by omega,by omega,by omega,by omega,by rw[srS_size];exact hs,hd,rfl,by rw[wsub (by omega) (by omega)]⟩
  ·obtain⟨e1,_⟩:=hR;cases e1
 ·rw[wadd (by omega),wsub (by omega) (by omega),wsub (by omega) (by omega)]
  refine VX_spec rfl (swapRange_ok l d' d.size hs (m-i) (m+j-i) i _ (by omega) (by omega) (by omega) b cap post τ) .nil (fun x σ' hR=> ?_) (fun ch σ' hR=> ?_)
  ·obtain⟨e1,rfl⟩:=hR
   cases e1
   repeat'(first|exact .nil|refine .k0 ?_|refine .k1 ?_|refine .k2 ?_|refine .r1 ?_ ?_|fail)
   obtain⟨q,rfl⟩:∃ p,q=p+1:=⟨q-1,by omega⟩
   rw[rotL,if_neg (by omega),if_neg (by omega)]at hd
   refine⟨q,by omega,_,_,Zr,Zs,i,j-i,srS (m-i) (m+j-i) i d',by omega,by omega,by omega,by omega,by omega,by rw[srS_size];exact hs,hd,rfl,by rw[wsub (by omega) (by omega)]⟩
  ·obtain⟨e1,_⟩:=hR;cases e1
 ·have hij:i=j:=by omega
  subst hij
  rw[wsub (by omega) (by omega)]
  refine VX_spec rfl (swapRange_ok l d' d.size hs (m-i) m i _ (by omega) (by omega) (by omega) b cap post τ) .nil (fun x σ' hR=> ?_) (fun ch σ' hR=> ?_)
  ·obtain⟨e1,rfl⟩:=hR
   cases e1
   repeat'(first|exact .nil|refine .k1 ?_|refine .k3 ?_|refine .r2 ?_ ?_|fail)
   obtain⟨q,rfl⟩:∃ p,q=p+1:=⟨q-1,by omega⟩
   rw[rotL,if_pos rfl]at hd
   rw[hd]
   exact⟨rfl,rfl⟩
  ·obtain⟨e1,_⟩:=hR;cases e1
theorem obid{p:Prop}:OB [p→p]:= .cons (fun h=>h) .nil
theorem cmp_ok(p q:Prb):Pure Tryz.prog 27 [prbA p,prbA q] (iv (IntKind.i64.wrap (p.at_-q.at_))):=by
 refine Pure.runk (fun _=>0) Tryz.func27 comp27 era27 (Nat.le_of_ble_eq_true rfl) fun σ=> ?_
 repeat'(first|exact .nil|refine .k0 ?_|refine .k1 ?_|refine .k2 ?_|refine .k7 ?_|refine .r1 ?_ ?_|(refine .m1 ?_ ?_;intro b)|fail)
 all_goals(try simp only[BL]at *)
 exact Sx.Fin.intro Zs rfl
theorem insert_ok(l:List Prb)(d:Array Nat)(z:Nat)(hzz:d.size=z)(a e:Nat)(he:e≤d.size)(ha:a≤e)(hz:d.size≤1000000):SrtS 94 [iv a,iv e,.v cmpV] l z d (insS (ltP l) a e d):=by
 intro b cap post τ
 subst hzz
 refine Spec.runk (fun _=>0) Tryz.func94 comp94 era94 (Nat.le_of_ble_eq_true rfl) ?_
 repeat'(first|exact .nil|refine .k0 ?_|refine .k1 ?_|refine .k2 ?_|refine .k6 ?_|refine .r1 ?_ ?_|fail)
 have w1:IntKind.i64.wrap ((a:Int)+1)=((a+1:Nat):Int):=by rw[i64w (by omega)];rfl
 rw[w1]
 refine WK_loop (fun q rg σ'=>∃ (i:Nat) (d':Array Nat),a+1≤i∧q=e-i∧d'.size=d.size∧insO (ltP l) a (e-i) i d'=insS (ltP l) a e d∧σ'=(12,b,.cells (flD l d'++post))::τ∧rg=[(0,.ms 12 b 0 d.size cap),(1,iv a),(2,iv e),(3,.v cmpV),(8,iv i)]) (e-(a+1)) rfl ⟨_,_,Zr,Zs,a+1,d,by omega,rfl,rfl,rfl,rfl,rfl⟩ ?_
 rintro q _ _ ⟨i,d1,hi,hq,hs1,hd1,rfl,rfl⟩
 repeat'(first|exact .nil|refine .k0 ?_|refine .k1 ?_|refine .k2 ?_|refine .k3 ?_|refine .k6 ?_|refine .k8 ?_|refine .k9 ?_|(refine .cd ?_ ?_<;>(intro hc;skip))|refine .r1 ?_ ?_|refine .r2 ?_ ?_|fail)
 all_goals(try simp only[BL]at *)
 ·refine WK_loop (fun q rg σ'=>∃ (j:Nat) (d':Array Nat),j≤i∧q=j∧d'.size=d.size∧insJ (ltP l) a j d'=insJ (ltP l) a i d1∧σ'=(12,b,.cells (flD l d'++post))::τ∧rg=[(0,.ms 12 b 0 d.size cap),(1,iv a),(2,iv e),(3,.v cmpV),(8,iv i),(9,iv j)]) i rfl ⟨_,_,Zr,Zs,i,d1,Nat.le_refl _,rfl,hs1,rfl,rfl,rfl⟩ ?_
  rintro q2 _ _ ⟨j,d',hj,hq2,hs,hd,rfl,rfl⟩
  have hw:(IntKind.i64.wrap ((j:Int)-1)).toNat=j-1:=by rw[i64w (by omega)];omega
  repeat'(first|exact .nil|refine .k1 ?_|refine .k4 ?_|refine .k5 ?_|refine .r1 ?_ ?_|refine .r8 ?_ ?_|fail)
  ·intro _;omega
  refine VY_lda rfl (by rfl) rfl (by first|exact flD_get (k:=j) (by omega) (by omega)|fail) (by rfl) (by exact obid) ?_
  repeat'(first|exact .nil|refine .k4 ?_|refine .r1 ?_ ?_|refine .r8 ?_ ?_|fail)
  ·intro h;have:=of_decide_eq_true h;rw[i64w (by omega)];omega
  refine VY_lda rfl (by rfl) rfl (by first|exact flD_get (k:=j-1) (by omega) (by rw[Nat.zero_add,hw])|fail) (by rfl) (by exact obid) ?_
  repeat'(first|exact .nil|refine .k0 ?_|refine .k1 ?_|refine .k2 ?_|refine .k3 ?_|refine .k4 ?_|refine .k6 ?_|refine .k8 ?_|refine .k9 ?_|(refine .cd ?_ ?_<;>(intro hc;skip))|refine .r1 ?_ ?_|refine .an rfl (by intro hob;exact cmp_ok _ _) ?_ ?_|refine .r8 ?_ ?_|fail)
  all_goals(try simp only[BL]at *)
  ·have h5:=hc.1
   rw[i64w (by omega)];omega
  ·refine VY_lda rfl (by rfl) rfl (by first|exact flD_get (k:=j-1) (by omega) (by rw[Nat.zero_add,hw])|fail) (by rfl) (by first|exact .nil|fail) ?_
   repeat'(first|exact .nil|refine .r1 ?_ ?_|refine .r8 ?_ ?_|fail)
   ·omega
   refine VY_lda rfl (by rfl) rfl (by first|exact flD_get (k:=j) (by omega) (by omega)|fail) (by rfl) (by first|exact .nil|fail) ?_
   repeat'(first|exact .nil|refine .r1 ?_ ?_|refine .r8 ?_ ?_|fail)
   ·omega
   refine VY_st rfl rfl (by rfl) rfl (by rfl) (by exact flD_set (k:=j) (by omega) (by omega) _) (by rfl) .nil ?_
   repeat'(first|exact .nil|refine .r1 ?_ ?_|refine .r8 ?_ ?_|fail)
   ·rw[i64w (by omega)];omega
   refine VY_st rfl rfl (by rfl) rfl (by rfl) (by first|exact flD_set (k:=j-1) (by(rw[Array.size_setIfInBounds];omega)) (by rw[Nat.zero_add,hw]) _|fail) (by rfl) .nil ?_
   repeat'(first|exact .nil|refine .k0 ?_|refine .k1 ?_|refine .k2 ?_|refine .r1 ?_ ?_|fail)
   rw[upt_hd,upt_hd]
   obtain⟨k,rfl⟩:∃ k,j=k+1:=⟨j-1,by omega⟩
   rw[insJ,if_pos ⟨by omega,decide_eq_true (by exact hc.2)⟩]at hd
   exact⟨k,by omega,_,_,Zr,Zs,k,swp d' (k+1) k,by omega,rfl,by rw[size_swp'];exact hs,hd,rfl,by rw[show((k+1:Nat):Int)-1=k by omega,i64w (by omega)]⟩
  ·have hdone:insJ (ltP l) a j d'=d':=by
    cases j with
    |zero=>rfl
    |succ k=>
     rw[insJ,if_neg]
     rintro⟨g1,g2⟩
     have g3:=of_decide_eq_true g2
     rcases hc with hc|hc
     ·omega
     ·exact hc g3
   rw[hdone]at hd
   rw[show e-i=(e-(i+1))+1 by omega,insO,← hd]at hd1
   exact⟨e-(i+1),by omega,_,_,Zr,Zs,i+1,d',by omega,rfl,hs,hd1,rfl,by rw[i64w (by omega)];rfl⟩
 ·have hie:e-i=0:=by omega
  rw[hie,insO]at hd1
  rw[hd1]
  exact⟨trivial,rfl⟩
set_option maxHeartbeats 8000000
theorem whalf{x y:Nat}(h:x+y≤4000000):IntKind.i64.wrap (IntKind.u64.wrap (IntKind.i64.wrap ((x:Int)+(y:Int))) / 2 ^ Int.toNat 1)=(((x+y) / 2:Nat):Int):=by
 rw[i64w (n:=(x:Int)+y) (by omega),IntKind.wrap_u64,show(2:Int) ^ Int.toNat 1=2 from rfl,i64w (by omega)];omega
theorem bsN_done{q:Nat→Bool}{i j:Nat}(h:¬i<j):∀ n,bsN q n i j=i
 |0=>rfl
 |n+1=>by rw[bsN,if_neg h]
theorem bsN_bd(q:Nat→Bool):∀ (n i j:Nat),i≤j→i≤bsN q n i j∧bsN q n i j≤j
 |0,i,j,h=>⟨Nat.le_refl _,h⟩
 |n+1,i,j,h=>by
  unfold bsN
  split
  ·split
   ·have:=bsN_bd q n ((i+j) / 2+1) j (by omega);omega
   ·have:=bsN_bd q n i ((i+j) / 2) (by omega);omega
  ·omega
theorem sym_step(l:List Prb)(n:Nat)(ih:∀ (d:Array Nat) (z:Nat),d.size=z→∀ a m e:Nat,a<m→m<e→e≤d.size→e-a≤n→d.size≤1000000→SrtS 95 [iv a,iv m,iv e,.v cmpV] l z d (symM (ltP l) n a m e d))
  (d:Array Nat) (z:Nat) (hzz:d.size=z) (a m e:Nat) (ha:a<m) (hm:m<e) (he:e≤d.size) (hn:e-a≤n+1) (hz:d.size≤1000000):SrtS 95 [iv a,iv m,iv e,.v cmpV] l z d (symM (ltP l) (n+1) a m e d):=by
 intro b cap post τ
 subst hzz
 refine Spec.runk (fun _=>0) Tryz.func95 comp95 era95 (Nat.le_of_ble_eq_true rfl) ?_
 repeat'(first|exact .nil|refine .k0 ?_|refine .k1 ?_|refine .k2 ?_|refine .k6 ?_|refine .k9 ?_|(refine .cd ?_ ?_<;>(intro hc;skip))|refine .r1 ?_ ?_|fail)
 ·have hc1:=of_decide_eq_true hc
  rw[wsub (by omega) (by omega)]at hc1
  have hma:m-a=1:=by omega
  clear hc hc1
  rw[show symM (ltP l) (n+1) a m e d=upL (bsN (fun h=>ltP l d[h]! d[a]!) (e-m) m e-1-a) a d by rw[symM,if_pos hma]]
  generalize hbb:bsN (fun h=>ltP l d[h]! d[a]!) (e-m) m e=s at *
  refine WK_loop (fun q rg σ'=>∃ i j,m≤i∧i≤j∧j≤e∧j-i≤q∧bsN (fun h=>ltP l d[h]! d[a]!) q i j=s∧σ'=(12,b,.cells (flD l d++post))::τ∧rg=[(0,.ms 12 b 0 d.size cap),(1,iv a),(4,.v cmpV),(10,iv i),(11,iv j)]) (e-m) rfl ⟨_,_,Zr,Zs,m,e,by omega,by omega,by omega,by omega,hbb,rfl,rfl⟩ ?_
  rintro q _ _ ⟨i,j,hi,hij,hj,hq,hb,rfl,rfl⟩
  have hh:=whalf (x:=i) (y:=j) (by omega)
  repeat'(first|exact .nil|refine .k0 ?_|refine .k1 ?_|refine .k2 ?_|refine .k5 ?_|refine .k6 ?_|refine .k8 ?_|refine .k9 ?_|(refine .cd ?_ ?_<;>(intro hc;skip))|refine .r1 ?_ ?_|refine .r8 ?_ ?_|fail)
  all_goals(try simp only[BL]at *)
  ·exact⟨by decide,by decide⟩
  ·rw[hh];omega
  ·rw[hh]
   refine VY_lda rfl (by rfl) rfl (by first|exact flD_get (k:=(i+j) / 2) (by omega) (by omega)|fail) (by rfl) (by first|exact .nil|fail) ?_
   repeat'(first|exact .nil|refine .r1 ?_ ?_|refine .r8 ?_ ?_|fail)
   ·omega
   refine VY_lda rfl (by rfl) rfl (by exact flD_get (k:=a) (by omega) (by omega)) (by rfl) (by first|exact .nil|fail) ?_
   repeat'(first|exact .nil|refine .k0 ?_|refine .k1 ?_|refine .k2 ?_|(refine .cd ?_ ?_<;>(intro hc;skip))|refine .r1 ?_ ?_|refine .an rfl (by intro hob;exact cmp_ok _ _) ?_ ?_|fail)
   ·obtain⟨q,rfl⟩:∃ p,q=p+1:=⟨q-1,by omega⟩
    rw[bsN,if_pos (by omega),if_pos (by exact hc)]at hb
    exact⟨q,by omega,_,_,Zr,Zs,(i+j) / 2+1,j,by omega,by omega,by omega,by omega,hb,rfl,by rw[i64w (by omega)];rfl⟩
   ·obtain⟨q,rfl⟩:∃ p,q=p+1:=⟨q-1,by omega⟩
    rw[bsN,if_pos (by omega),if_neg (by rw[show ltP l d[(i+j) / 2]! d[a]! =false from hc];decide)]at hb
    exact⟨q,by omega,_,_,Zr,Zs,i,(i+j) / 2,by omega,by omega,by omega,by omega,hb,rfl,rfl⟩
  ·rw[bsN_done (by omega)]at hb
   subst hb
   have hw1:IntKind.i64.wrap ((i:Int)-1)=((i-1:Nat):Int):=by rw[i64w (by omega)];omega
   refine WK_loop (fun q rg σ'=>∃ (k:Nat) (d':Array Nat),a≤k∧k≤i-1∧q=i-1-k∧d'.size=d.size∧upL (i-1-k) k d'=upL (i-1-a) a d∧σ'=(12,b,.cells (flD l d'++post))::τ∧rg=[(0,.ms 12 b 0 d.size cap),(10,iv i),(13,iv k)]) (i-1-a) rfl ⟨_,_,Zr,Zs,a,d,by omega,by omega,rfl,rfl,rfl,rfl,rfl⟩ ?_
   rintro q2 _ _ ⟨k,d',hk,hki,hq2,hs,hd,rfl,rfl⟩
   have hwk:IntKind.i64.wrap ((k:Int)+1)=((k+1:Nat):Int):=by rw[i64w (by omega)];rfl
   repeat'(first|exact .nil|refine .k0 ?_|refine .k1 ?_|refine .k2 ?_|refine .k3 ?_|refine .k6 ?_|refine .k7 ?_|refine .k8 ?_|refine .k9 ?_|(refine .cd ?_ ?_<;>(intro hc;skip))|refine .r1 ?_ ?_|refine .r8 ?_ ?_|fail)
   all_goals(try rw[hw1]at hc)
   all_goals(try simp only[BL]at *)
   ·rw[hwk];omega
   ·refine VY_lda rfl (by rfl) rfl (by first|exact flD_get (k:=k+1) (by omega) (by rw[hwk];omega)|fail) (by rfl) (by first|exact .nil|fail) ?_
    repeat'(first|exact .nil|refine .r1 ?_ ?_|refine .r8 ?_ ?_|fail)
    ·omega
    refine VY_lda rfl (by rfl) rfl (by first|exact flD_get (k:=k) (by omega) (by omega)|fail) (by rfl) (by first|exact .nil|fail) ?_
    repeat'(first|exact .nil|refine .r1 ?_ ?_|refine .r8 ?_ ?_|fail)
    ·omega
    refine VY_st rfl rfl (by rfl) rfl (by rfl) (by exact flD_set (k:=k) (by omega) (by omega) _) (by rfl) .nil ?_
    repeat'(first|exact .nil|refine .r1 ?_ ?_|refine .r8 ?_ ?_|fail)
    ·rw[hwk];omega
    refine VY_st rfl rfl (by rfl) rfl (by rfl) (by first|exact flD_set (k:=k+1) (by(rw[Array.size_setIfInBounds];omega)) (by rw[hwk];omega) _|fail) (by rfl) .nil ?_
    repeat'(first|exact .nil|refine .k0 ?_|refine .k1 ?_|refine .k2 ?_|refine .r1 ?_ ?_|fail)
    rw[upt_hd,upt_hd]
    rw[show i-1-k=(i-1-(k+1))+1 by omega,upL]at hd
    exact⟨i-1-(k+1),by omega,_,_,Zr,Zs,k+1,swp d' k (k+1),by omega,by omega,rfl,by rw[size_swp'];exact hs,hd,rfl,by rw[hwk]⟩
   ·rw[show i-1-k=0 by omega,upL]at hd
    rw[hd];exact⟨trivial,rfl⟩
 ·have hc1:=of_decide_eq_true hc
  rw[wsub (by omega) (by omega)]at hc1
  have hem:e-m=1:=by omega
  have hma:¬m-a=1:=by
   rename_i hc2
   have hc2:=of_decide_eq_false hc2
   rw[wsub (by omega) (by omega)]at hc2
   omega
  clear hc hc1
  rw[show symM (ltP l) (n+1) a m e d=dnL (m-bsN (fun h=> !ltP l d[m]! d[h]!) (m-a) a m) m d by rw[symM,if_neg hma,if_pos hem]]
  generalize hbb:bsN (fun h=> !ltP l d[m]! d[h]!) (m-a) a m=s at *
  refine WK_loop (fun q rg σ'=>∃ i j,a≤i∧i≤j∧j≤m∧j-i≤q∧bsN (fun h=> !ltP l d[m]! d[h]!) q i j=s∧σ'=(12,b,.cells (flD l d++post))::τ∧rg=[(0,.ms 12 b 0 d.size cap),(2,iv m),(4,.v cmpV),(14,iv i),(15,iv j)]) (m-a) rfl ⟨_,_,Zr,Zs,a,m,by omega,by omega,by omega,by omega,hbb,rfl,rfl⟩ ?_
  rintro q _ _ ⟨i,j,hi,hij,hj,hq,hb,rfl,rfl⟩
  have hh:=whalf (x:=i) (y:=j) (by omega)
  repeat'(first|exact .nil|refine .k0 ?_|refine .k1 ?_|refine .k2 ?_|refine .k5 ?_|refine .k6 ?_|refine .k8 ?_|refine .k9 ?_|(refine .cd ?_ ?_<;>(intro hc;skip))|refine .r1 ?_ ?_|refine .r8 ?_ ?_|fail)
  all_goals(try simp only[BL]at *)
  ·exact⟨by decide,by decide⟩
  ·omega
  ·rw[hh]
   refine VY_lda rfl (by rfl) rfl (by exact flD_get (k:=m) (by omega) (by omega)) (by rfl) (by first|exact .nil|fail) ?_
   repeat'(first|exact .nil|refine .r1 ?_ ?_|refine .r8 ?_ ?_|fail)
   ·omega
   refine VY_lda rfl (by rfl) rfl (by first|exact flD_get (k:=(i+j) / 2) (by omega) (by omega)|fail) (by rfl) (by first|exact .nil|fail) ?_
   repeat'(first|exact .nil|refine .k0 ?_|refine .k1 ?_|refine .k2 ?_|(refine .cd ?_ ?_<;>(intro hc;skip))|refine .r1 ?_ ?_|refine .an rfl (by intro hob;exact cmp_ok _ _) ?_ ?_|fail)
   ·obtain⟨q,rfl⟩:∃ p,q=p+1:=⟨q-1,by omega⟩
    rw[bsN,if_pos (by omega),if_pos (by exact hc)]at hb
    exact⟨q,by omega,_,_,Zr,Zs,(i+j) / 2+1,j,by omega,by omega,by omega,by omega,hb,rfl,by rw[i64w (by omega)];rfl⟩
   ·obtain⟨q,rfl⟩:∃ p,q=p+1:=⟨q-1,by omega⟩
    rw[bsN,if_pos (by omega),if_neg (by rw[show(!ltP l d[m]! d[(i+j) / 2]!)=false from hc];decide)]at hb
    exact⟨q,by omega,_,_,Zr,Zs,i,(i+j) / 2,by omega,by omega,by omega,by omega,hb,rfl,rfl⟩
  ·rw[bsN_done (by omega)]at hb
   subst hb
   refine WK_loop (fun q rg σ'=>∃ (k:Nat) (d':Array Nat),i≤k∧k≤m∧q=k-i∧d'.size=d.size∧dnL (k-i) k d'=dnL (m-i) m d∧σ'=(12,b,.cells (flD l d'++post))::τ∧rg=[(0,.ms 12 b 0 d.size cap),(14,iv i),(17,iv k)]) (m-i) rfl ⟨_,_,Zr,Zs,m,d,by omega,by omega,rfl,rfl,rfl,rfl,rfl⟩ ?_
   rintro q2 _ _ ⟨k,d',hk,hki,hq2,hs,hd,rfl,rfl⟩
   have hwk:(IntKind.i64.wrap ((k:Int)-1)).toNat=k-1:=by rw[i64w (by omega)];omega
   repeat'(first|exact .nil|refine .k0 ?_|refine .k1 ?_|refine .k2 ?_|refine .k3 ?_|refine .k6 ?_|refine .k7 ?_|refine .k8 ?_|refine .k9 ?_|(refine .cd ?_ ?_<;>(intro hc;skip))|refine .r1 ?_ ?_|refine .r8 ?_ ?_|fail)
   all_goals(try simp only[BL]at *)
   ·rw[i64w (by omega)];omega
   ·refine VY_lda rfl (by rfl) rfl (by first|exact flD_get (k:=k-1) (by omega) (by rw[Nat.zero_add,hwk])|fail) (by rfl) (by first|exact .nil|fail) ?_
    repeat'(first|exact .nil|refine .r1 ?_ ?_|refine .r8 ?_ ?_|fail)
    ·omega
    refine VY_lda rfl (by rfl) rfl (by first|exact flD_get (k:=k) (by omega) (by omega)|fail) (by rfl) (by first|exact .nil|fail) ?_
    repeat'(first|exact .nil|refine .r1 ?_ ?_|refine .r8 ?_ ?_|fail)
    ·omega
    refine VY_st rfl rfl (by rfl) rfl (by rfl) (by exact flD_set (k:=k) (by omega) (by omega) _) (by rfl) .nil ?_
    repeat'(first|exact .nil|refine .r1 ?_ ?_|refine .r8 ?_ ?_|fail)
    ·rw[i64w (by omega)];omega
    refine VY_st rfl rfl (by rfl) rfl (by rfl) (by first|exact flD_set (k:=k-1) (by(rw[Array.size_setIfInBounds];omega)) (by rw[Nat.zero_add,hwk]) _|fail) (by rfl) .nil ?_
    repeat'(first|exact .nil|refine .k0 ?_|refine .k1 ?_|refine .k2 ?_|refine .r1 ?_ ?_|fail)
    rw[upt_hd,upt_hd]
    rw[show k-i=(k-1-i)+1 by omega,dnL]at hd
    exact⟨k-1-i,by omega,_,_,Zr,Zs,k-1,swp d' k (k-1),by omega,by omega,rfl,by rw[size_swp'];exact hs,hd,rfl,by rw[i64w (by omega)];congr;omega⟩
   ·rw[show k-i=0 by omega,dnL]at hd
    rw[hd];exact⟨trivial,rfl⟩
 ·exact⟨by decide,by decide⟩
 all_goals
  have hmid:=whalf (x:=a) (y:=e) (by omega)
  have hw1:=wsub (a:=m) (b:=a) (by omega) (by omega)
  have hw2:=wsub (a:=e) (b:=m) (by omega) (by omega)
  (try simp only[BL]at *)
  have hma:¬m-a=1:=by omega
  have hem:¬e-m=1:=by omega
  rw[hmid]at hc ⊢
  obtain⟨mid,hmd⟩:∃ mid,mid=(a+e) / 2:=⟨_,rfl⟩
  rw[← hmd]at hc ⊢
  rw[wadd (by omega)]
  try rw[wsub (a:=mid+m) (b:=e) (by omega) (by omega)]
  have hw3:IntKind.i64.wrap (((mid+m:Nat):Int)-1)=((mid+m-1:Nat):Int):=by rw[i64w (by omega)];omega
  rw[hw3]
  obtain⟨s0,r0,hs0,hr0,hor⟩:∃ s0 r0:Nat,s0=(if m>mid then mid+m-e else a)∧r0=(if m>mid then mid else m)∧((m>mid∧s0=mid+m-e∧r0=mid)∨(¬m>mid∧s0=a∧r0=m)):=by
   by_cases h:m>mid
   ·exact⟨_,_,rfl,rfl,.inl ⟨h,if_pos h,if_pos h⟩⟩
   ·exact⟨_,_,rfl,rfl,.inr ⟨h,if_neg h,if_neg h⟩⟩
  have hsym:∀ s,bsN (fun c=> !ltP l d[mid+m-1-c]! d[c]!) (r0-s0) s0 r0=s→symM (ltP l) (n+1) a m e d=
    (if mid<mid+m-s∧mid+m-s<e then symM (ltP l) n mid (mid+m-s) e (if a<s∧s<mid then symM (ltP l) n a s mid (if s<m∧m<mid+m-s then rotL m (mid+m-s-s) (m-s) (mid+m-s-m) d else d)else(if s<m∧m<mid+m-s then rotL m (mid+m-s-s) (m-s) (mid+m-s-m) d else d))
     else(if a<s∧s<mid then symM (ltP l) n a s mid (if s<m∧m<mid+m-s then rotL m (mid+m-s-s) (m-s) (mid+m-s-m) d else d)else(if s<m∧m<mid+m-s then rotL m (mid+m-s-s) (m-s) (mid+m-s-m) d else d))):=by
   intro s hs
   rw[symM,if_neg hma,if_neg hem,← hmd]
   simp only
   rw[hs0,hr0]at hs
   by_cases h:m>mid
   ·simp only[if_pos h]at hs ⊢
    simp only[hs]
   ·simp only[if_neg h]at hs ⊢
    simp only[hs]
  first
  |rw[if_pos (by omega)]at hs0 hr0
  |rw[if_neg (by omega)]at hs0 hr0
  obtain⟨s,hs⟩:∃ s,bsN (fun c=> !ltP l d[mid+m-1-c]! d[c]!) (r0-s0) s0 r0=s:=⟨_,rfl⟩
  have hsym:=hsym s hs
  have hbd:=bsN_bd (fun c=> !ltP l d[mid+m-1-c]! d[c]!) (r0-s0) s0 r0 (by omega)
  rw[hs]at hbd
  refine WK_loop (fun q rg σ'=>∃ i j,s0≤i∧i≤j∧j≤r0∧j-i≤q∧bsN (fun c=> !ltP l d[mid+m-1-c]! d[c]!) q i j=s∧σ'=(12,b,.cells (flD l d++post))::τ∧rg=[(0,.ms 12 b 0 d.size cap),(1,iv a),(2,iv m),(3,iv e),(4,.v cmpV),(18,iv mid),(19,iv (mid+m:Nat)),(20,iv i),(21,iv j),(22,iv (mid+m-1:Nat))]) (r0-s0) rfl ⟨_,_,Zr,Zs,s0,r0,by omega,by omega,by omega,by omega,hs,rfl,by rw[hs0,hr0]⟩ ?_
  rintro q _ _ ⟨i,j,hi,hij,hj,hq,hb,rfl,rfl⟩
  have hh:=whalf (x:=i) (y:=j) (by omega)
  repeat'(first|exact .nil|refine .k0 ?_|refine .k1 ?_|refine .k2 ?_|refine .k3 ?_|refine .k4 ?_|refine .k5 ?_|refine .k6 ?_|refine .k8 ?_|refine .k9 ?_|(refine .cd ?_ ?_<;>(intro hc;skip))|refine .r1 ?_ ?_|refine .r2 ?_ ?_|refine .r8 ?_ ?_|fail)
  all_goals(try simp only[BL]at *)
  ·exact⟨by decide,by decide⟩
  ·rw[hh,wsub (by omega) (by omega)];omega
  ·rw[hh,wsub (by omega) (by omega)]
   refine VY_lda rfl (by rfl) rfl (by first|exact flD_get (k:=mid+m-1-(i+j) / 2) (by omega) (by omega)|fail) (by rfl) (by first|exact .nil|fail) ?_
   repeat'(first|exact .nil|refine .r1 ?_ ?_|refine .r8 ?_ ?_|fail)
   ·omega
   refine VY_lda rfl (by rfl) rfl (by exact flD_get (k:=(i+j) / 2) (by omega) (by omega)) (by rfl) (by first|exact .nil|fail) ?_
   repeat'(first|exact .nil|refine .k0 ?_|refine .k1 ?_|refine .k2 ?_|(refine .cd ?_ ?_<;>(intro hc;skip))|refine .r1 ?_ ?_|refine .an rfl (by intro hob;exact cmp_ok _ _) ?_ ?_|fail)
   ·obtain⟨q,rfl⟩:∃ p,q=p+1:=⟨q-1,by omega⟩
    rw[bsN,if_pos (by omega),if_pos (by exact hc)]at hb
    exact⟨q,by omega,_,_,Zr,Zs,(i+j) / 2+1,j,by omega,by omega,by omega,by omega,hb,rfl,by rw[i64w (by omega)];rfl⟩
   ·obtain⟨q,rfl⟩:∃ p,q=p+1:=⟨q-1,by omega⟩
    rw[bsN,if_pos (by omega),if_neg (by rw[show(!ltP l d[mid+m-1-(i+j) / 2]! d[(i+j) / 2]!)=false from hc];decide)]at hb
    exact⟨q,by omega,_,_,Zr,Zs,i,(i+j) / 2,by omega,by omega,by omega,by omega,hb,rfl,rfl⟩
  all_goals
   rw[bsN_done (by omega)]at hb
   subst hb
   have hE:=wsub (a:=mid+m) (b:=i) (by omega) (by omega)
  ·(rw[hE];refine VX_spec rfl (rotate_ok l d d.size rfl i m (mid+m-i) (by omega) (by omega) (by omega) hz b cap post τ) .nil (fun x σ' hR=> ?_) (fun ch σ' hR=> ?_))
   ·(obtain⟨e1,rfl⟩:=hR;cases e1;repeat'(first|exact .nil|refine .k0 ?_|refine .k1 ?_|refine .k2 ?_|refine .k3 ?_|refine .k4 ?_|refine .k9 ?_|(refine .cd ?_ ?_<;>(intro hc;skip))|refine .r1 ?_ ?_|refine .r2 ?_ ?_|fail))
    all_goals(try simp only[BL]at *)
    ·refine VX_spec rfl (ih _ d.size (by simp only[symM_size,rotL_size]) a i mid (by omega) (by omega) (by(try simp only[symM_size,rotL_size]);omega) (by omega) (by(try simp only[symM_size,rotL_size]);omega) b cap post τ) .nil (fun x σ' hR=> ?_) (fun ch σ' hR=> ?_)
     ·(obtain⟨e1,rfl⟩:=hR;cases e1;repeat'(first|exact .nil|refine .k0 ?_|refine .k1 ?_|refine .k2 ?_|refine .k3 ?_|refine .k4 ?_|refine .k9 ?_|(refine .cd ?_ ?_<;>(intro hc;skip))|refine .r1 ?_ ?_|refine .r2 ?_ ?_|fail))
      all_goals(try simp only[BL]at *)
      ·(try rw[hE]);refine VX_spec rfl (ih _ d.size (by simp only[symM_size,rotL_size]) mid (mid+m-i) e (by omega) (by omega) (by(try simp only[symM_size,rotL_size]);omega) (by omega) (by(try simp only[symM_size,rotL_size]);omega) b cap post τ) .nil (fun x σ' hR=> ?_) (fun ch σ' hR=> ?_)
       ·(obtain⟨e1,rfl⟩:=hR;cases e1;repeat'(first|exact .nil|refine .k1 ?_|refine .k3 ?_|refine .r2 ?_ ?_|fail))
        (rw[hsym];(repeat' split)<;>first|exact⟨rfl,rfl⟩|(exfalso;omega))
       ·(obtain⟨e1,_⟩:=hR;cases e1)
      ·(rw[hsym];(repeat' split)<;>first|exact⟨trivial,rfl⟩|(exfalso;omega))
     ·(obtain⟨e1,_⟩:=hR;cases e1)
    ·(try rw[hE]);refine VX_spec rfl (ih _ d.size (by simp only[symM_size,rotL_size]) mid (mid+m-i) e (by omega) (by omega) (by(try simp only[symM_size,rotL_size]);omega) (by omega) (by(try simp only[symM_size,rotL_size]);omega) b cap post τ) .nil (fun x σ' hR=> ?_) (fun ch σ' hR=> ?_)
     ·(obtain⟨e1,rfl⟩:=hR;cases e1;repeat'(first|exact .nil|refine .k1 ?_|refine .k3 ?_|refine .r2 ?_ ?_|fail))
      (rw[hsym];(repeat' split)<;>first|exact⟨rfl,rfl⟩|(exfalso;omega))
     ·(obtain⟨e1,_⟩:=hR;cases e1)
    ·(rw[hsym];(repeat' split)<;>first|exact⟨trivial,rfl⟩|(exfalso;omega))
   ·(obtain⟨e1,_⟩:=hR;cases e1)
  ·refine VX_spec rfl (ih _ d.size (by simp only[symM_size,rotL_size]) a i mid (by omega) (by omega) (by(try simp only[symM_size,rotL_size]);omega) (by omega) (by(try simp only[symM_size,rotL_size]);omega) b cap post τ) .nil (fun x σ' hR=> ?_) (fun ch σ' hR=> ?_)
   ·(obtain⟨e1,rfl⟩:=hR;cases e1;repeat'(first|exact .nil|refine .k0 ?_|refine .k1 ?_|refine .k2 ?_|refine .k3 ?_|refine .k4 ?_|refine .k9 ?_|(refine .cd ?_ ?_<;>(intro hc;skip))|refine .r1 ?_ ?_|refine .r2 ?_ ?_|fail))
    all_goals(try simp only[BL]at *)
    ·(try rw[hE]);refine VX_spec rfl (ih _ d.size (by simp only[symM_size,rotL_size]) mid (mid+m-i) e (by omega) (by omega) (by(try simp only[symM_size,rotL_size]);omega) (by omega) (by(try simp only[symM_size,rotL_size]);omega) b cap post τ) .nil (fun x σ' hR=> ?_) (fun ch σ' hR=> ?_)
     ·(obtain⟨e1,rfl⟩:=hR;cases e1;repeat'(first|exact .nil|refine .k1 ?_|refine .k3 ?_|refine .r2 ?_ ?_|fail))
      (rw[hsym];(repeat' split)<;>first|exact⟨rfl,rfl⟩|(exfalso;omega))
     ·(obtain⟨e1,_⟩:=hR;cases e1)
    ·(rw[hsym];(repeat' split)<;>first|exact⟨trivial,rfl⟩|(exfalso;omega))
   ·(obtain⟨e1,_⟩:=hR;cases e1)
  ·(try rw[hE]);refine VX_spec rfl (ih _ d.size (by simp only[symM_size,rotL_size]) mid (mid+m-i) e (by omega) (by omega) (by(try simp only[symM_size,rotL_size]);omega) (by omega) (by(try simp only[symM_size,rotL_size]);omega) b cap post τ) .nil (fun x σ' hR=> ?_) (fun ch σ' hR=> ?_)
   ·(obtain⟨e1,rfl⟩:=hR;cases e1;repeat'(first|exact .nil|refine .k1 ?_|refine .k3 ?_|refine .r2 ?_ ?_|fail))
    (rw[hsym];(repeat' split)<;>first|exact⟨rfl,rfl⟩|(exfalso;omega))
   ·(obtain⟨e1,_⟩:=hR;cases e1)
  ·(rw[hsym];(repeat' split)<;>first|exact⟨trivial,rfl⟩|(exfalso;omega))
set_option maxHeartbeats 8000000
theorem symM_ok(l:List Prb):∀ (n:Nat) (d:Array Nat) (z:Nat),d.size=z→∀ a m e:Nat,a<m→m<e→e≤d.size→e-a≤n→d.size≤1000000→SrtS 95 [iv a,iv m,iv e,.v cmpV] l z d (symM (ltP l) n a m e d)
 |0,d,z,_,a,m,e,h1,h2,_,h3,_=>by omega
 |n+1,d,z,hz,a,m,e,h1,h2,h3,h4,h5=>sym_step l n (symM_ok l n) d z hz a m e h1 h2 h3 h4 h5
theorem stable_ok(l:List Prb)(d:Array Nat)(z:Nat)(hzz:d.size=z)(hz:d.size≤1000000):SrtS 62 [iv z,.v cmpV] l z d (stab (ltP l) d):=by
 intro b cap post τ
 subst hzz
 refine Spec.runk (fun _=>0) Tryz.func62 comp62 era62 (Nat.le_of_ble_eq_true rfl) ?_
 repeat'(first|exact .nil|refine .k0 ?_|refine .k1 ?_|refine .k2 ?_|refine .k6 ?_|refine .r1 ?_ ?_|fail)
 refine WK_loop (fun q rg σ'=>∃ (a:Nat) (d':Array Nat),a≤d.size∧d.size-a<q∧d'.size=d.size∧blkI (ltP l) d.size q a d'=blkI (ltP l) d.size (d.size+1) 0 d∧σ'=(12,b,.cells (flD l d'++post))::τ∧rg=[(0,.ms 12 b 0 d.size cap),(1,iv d.size),(2,.v cmpV),(6,iv 20),(7,iv a),(8,iv (a+20:Nat))]) (d.size+1) rfl ⟨_,_,Zr,Zs,0,d,by omega,by omega,rfl,rfl,rfl,rfl⟩ ?_
 rintro q _ _ ⟨a,d1,ha,hq,hs1,hd1,rfl,rfl⟩
 repeat'(first|exact .nil|refine .k0 ?_|refine .k1 ?_|refine .k2 ?_|refine .k6 ?_|refine .k8 ?_|refine .k9 ?_|(refine .cd ?_ ?_<;>(intro hc;skip))|refine .r1 ?_ ?_|fail)
 all_goals(try simp only[BL]at *)
 ·refine VX_spec rfl (insert_ok l d1 d.size hs1 a (a+20) (by omega) (by omega) (by omega) b cap post τ) .nil (fun x σ' hR=> ?_) (fun ch σ' hR=> ?_)
  ·(obtain⟨e1,rfl⟩:=hR;cases e1;repeat'(first|exact .nil|refine .k0 ?_|refine .k1 ?_|refine .k2 ?_|refine .r1 ?_ ?_|fail))
   obtain⟨q,rfl⟩:∃ p,q=p+1:=⟨q-1,by omega⟩
   rw[blkI,if_pos (by omega)]at hd1
   exact⟨q,by omega,_,_,Zr,Zs,a+20,_,by omega,by omega,by rw[insS_size];exact hs1,hd1,rfl,by rw[show((a+20:Nat):Int)+20=((a+20+20:Nat):Int) by omega,i64w (by omega)]⟩
  ·(obtain⟨e1,_⟩:=hR;cases e1)
 ·refine VX_spec rfl (insert_ok l d1 d.size hs1 a d.size (by omega) (by omega) (by omega) b cap post τ) .nil (fun x σ' hR=> ?_) (fun ch σ' hR=> ?_)
  ·(obtain⟨e1,rfl⟩:=hR;cases e1;repeat'(first|refine .k0 ?_|refine .k1 ?_|refine .k6 ?_|fail))
   obtain⟨q,rfl⟩:∃ p,q=p+1:=⟨q-1,by omega⟩
   rw[blkI,if_neg (by omega)]at hd1
   rw[show stab (ltP l) d=blkO (ltP l) d.size (d.size+1) 20 (blkI (ltP l) d.size (d.size+1) 0 d)from rfl,← hd1]
   have hs2:(insS (ltP l) a d.size d1).size=d.size:=by rw[insS_size];exact hs1
   generalize insS (ltP l) a d.size d1=d2 at *
   refine WK_loop (fun q rg σ'=>∃ (s:Nat) (d':Array Nat),20≤s∧s≤2000000∧d.size-s<q∧d'.size=d.size∧blkO (ltP l) d.size q s d'=blkO (ltP l) d.size (d.size+1) 20 d2∧σ'=(12,b,.cells (flD l d'++post))::τ∧rg=[(0,.ms 12 b 0 d.size cap),(1,iv d.size),(2,.v cmpV),(6,iv s)]) (d.size+1) rfl ⟨_,_,Zr,Zs,20,d2,by omega,by omega,by omega,hs2,rfl,rfl,rfl⟩ ?_
   rintro q2 _ _ ⟨s,d3,hs20,hs21,hq2,hs3,hd3,rfl,rfl⟩
   have hw2:IntKind.i64.wrap (2 * (s:Int))=((2 * s:Nat):Int):=by rw[i64w (by omega)];omega
   have hw3:IntKind.i64.wrap ((s:Int) * 2)=((2 * s:Nat):Int):=by rw[i64w (by omega)];omega
   repeat'((fail_if_success (show WK _ _ _ _ (.loop _) _ _ _));(first|exact .nil|refine .k0 ?_|refine .k1 ?_|refine .k2 ?_|refine .k3 ?_|refine .k6 ?_|refine .k8 ?_|refine .k9 ?_|(refine .cd ?_ ?_<;>(intro hc;skip))|refine .r1 ?_ ?_|refine .r2 ?_ ?_|fail))
   all_goals(try simp only[BL]at *)
   ·obtain⟨q2,rfl⟩:∃ p,q2=p+1:=⟨q2-1,by omega⟩
    rw[blkO,if_pos (by omega)]at hd3
    rw[hw2]
    refine WK_loop (fun q rg σ'=>∃ (a:Nat) (d':Array Nat),a≤d.size∧d.size-a<q∧d'.size=d.size∧blkM (ltP l) d.size s q a d'=blkM (ltP l) d.size s (d.size+1) 0 d3∧σ'=(12,b,.cells (flD l d'++post))::τ∧rg=[(0,.ms 12 b 0 d.size cap),(1,iv d.size),(2,.v cmpV),(6,iv s),(7,iv a),(8,iv (a+2 * s:Nat))]) (d.size+1) rfl ⟨_,_,Zr,Zs,0,d3,by omega,by omega,hs3,rfl,rfl,by rw[Nat.zero_add];rfl⟩ ?_
    rintro q3 _ _ ⟨a3,d4,ha3,hq3,hs4,hd4,rfl,rfl⟩
    have hw4:IntKind.i64.wrap ((a3:Int)+(s:Int))=((a3+s:Nat):Int):=wadd (by omega)
    obtain⟨q3,rfl⟩:∃ p,q3=p+1:=⟨q3-1,by omega⟩
    repeat'(first|exact .nil|refine .k0 ?_|refine .k1 ?_|refine .k2 ?_|refine .k6 ?_|refine .k8 ?_|refine .k9 ?_|(refine .cd ?_ ?_<;>(intro hc;skip))|refine .r1 ?_ ?_|fail)
    all_goals(try simp only[BL]at *)
    ·rw[hw4]
     refine VX_spec rfl (symM_ok l (2 * s) d4 d.size hs4 a3 (a3+s) (a3+2 * s) (by omega) (by omega) (by omega) (by omega) (by omega) b cap post τ) .nil (fun x σ' hR=> ?_) (fun ch σ' hR=> ?_)
     ·(obtain⟨e1,rfl⟩:=hR;cases e1;repeat'(first|exact .nil|refine .k0 ?_|refine .k1 ?_|refine .k2 ?_|refine .r1 ?_ ?_|fail))
      rw[blkM,if_pos (by omega)]at hd4
      exact⟨q3,by omega,_,_,Zr,Zs,a3+2 * s,_,by omega,by omega,by rw[symM_size];exact hs4,hd4,rfl,by rw[hw2,wadd (by omega)]⟩
     ·(obtain⟨e1,_⟩:=hR;cases e1)
    ·rw[hw4]at hc ⊢
     refine VX_spec rfl (symM_ok l (d.size-a3) d4 d.size hs4 a3 (a3+s) d.size (by omega) (by omega) (by omega) (by omega) (by omega) b cap post τ) .nil (fun x σ' hR=> ?_) (fun ch σ' hR=> ?_)
     ·(obtain⟨e1,rfl⟩:=hR;cases e1;repeat'(first|exact .nil|refine .k0 ?_|refine .k1 ?_|refine .k2 ?_|refine .r1 ?_ ?_|fail))
      rw[blkM,if_neg (by omega),if_pos (by omega)]at hd4
      rw[← hd4]at hd3
      exact⟨q2,by omega,_,_,Zr,Zs,2 * s,_,by omega,by omega,by omega,by rw[symM_size];exact hs4,hd3,rfl,by rw[hw3]⟩
     ·(obtain⟨e1,_⟩:=hR;cases e1)
    ·rw[hw4]at hc
     rw[blkM,if_neg (by omega),if_neg (by omega)]at hd4
     rw[← hd4]at hd3
     exact⟨q2,by omega,_,_,Zr,Zs,2 * s,_,by omega,by omega,by omega,hs4,hd3,rfl,by rw[hw3]⟩
   ·obtain⟨q2,rfl⟩:∃ p,q2=p+1:=⟨q2-1,by omega⟩
    rw[blkO,if_neg (by omega)]at hd3
    rw[← hd3]
    exact⟨trivial,rfl⟩
  ·(obtain⟨e1,_⟩:=hR;cases e1)
end Go.Proofs.YtdcpcffpapiadaaGreatDoor
namespace Go.Sx
open Go.RowKit
inductive Stg:AV→Prop
 |v (x:Value):Stg (.v x)
 |any:Stg .any
 |agg (xs:List AV) (h:∀ i (h:i<xs.length),Stg xs[i]):Stg (.agg xs)
 |tup (xs:List AV) (h:∀ i (h:i<xs.length),Stg xs[i]):Stg (.tup xs)
 |sl (nn:Bool) (esz:Nat) (rows:List (List AV)) (h0:∀ i (h:i<rows.length),∃ j,∃ h2:j<rows[i].length,∃ s,rows[i][j]= .v (.string s))
   (h1:∀ i (h:i<rows.length) j (h2:j<rows[i].length),Stg rows[i][j]):Stg (.sl nn esz rows)
 |own (esz t b u c:Nat) (rows:List (List AV)) (h0:∀ i (h:i<rows.length),∃ j,∃ h2:j<rows[i].length,∃ s,rows[i][j]= .v (.string s))
   (h1:∀ i (h:i<rows.length) j (h2:j<rows[i].length),Stg rows[i][j]):Stg (.own esz t b u c rows)
 |lp (t b o:Nat):Stg (.lp t b o)
 |ms (t b o n c:Nat):Stg (.ms t b o n c)
def Mem.wo(M:Mem)(bb:Nat):Mem:=fun b o=>if b=bb then none else M b o
theorem Mem.wo_le(M:Mem)(bb:Nat):(M.wo bb).le M:=fun b o v h=>by
 unfold Mem.wo at h
 split at h
 ·cases h
 ·exact h
theorem stg_ne{M:Mem}{bb:Nat}(hb:∀ o w,M bb o=some w→∃ k n,w= .int k n){esz b off:Nat}{rows:List (List AV)}{cs:Nat→Value}(hsz:∀ i (h:i<rows.length),rows[i].length=esz)
  (hM:∀ k,k<rows.length * esz→M b (off+k)=some (cs k)) (hR:∀ i (h:i<rows.length) j (h2:j<rows[i].length),R M rows[i][j] (cs (i * esz+j)))
  (h0:∀ i (h:i<rows.length),∃ j,∃ h2:j<rows[i].length,∃ s,rows[i][j]= .v (.string s)) (hn:rows≠[]):b≠bb:=by
 rintro rfl
 have hp:0<rows.length:=List.length_pos_iff.2 hn
 obtain⟨j,h2,s,e⟩:=h0 0 hp
 have h3:=hR 0 hp j h2
 rw[e]at h3
 have hj:j<esz:=by rw[← hsz 0 hp];exact h2
 have h4:=hM (0 * esz+j) (by
  have:=Nat.mul_le_mul_right esz (show 1≤rows.length from hp)
  omega)
 obtain⟨k,n,e2⟩:=hb _ _ h4
 rw[h3.of_v]at e2
 cases e2
theorem Stg.wo{M:Mem}{bb:Nat}(hb:∀ o w,M bb o=some w→∃ k n,w= .int k n){x:AV}{v:Value}(h:R M x v)(hs:Stg x):R (M.wo bb) x v:=by
 induction h with
 |v x=>exact .v x
 |any x=>exact .any x
 |agg xs cs hl _ ih=>cases hs with|agg _ h=>exact .agg xs cs hl fun i h1 h2=>ih i h1 h2 (h i h1)
 |tup xs cs hl _ ih=>cases hs with|tup _ h=>exact .tup xs cs hl fun i h1 h2=>ih i h1 h2 (h i h1)
 |nil nn esz a h=>exact .nil nn esz a h
 |sl nn esz rows b off cap cs hsz hm hR hc hx ih=>
  cases hs with
  |sl _ _ _ h0 h1=>
   refine .sl nn esz rows b off cap cs hsz (fun k hk=> ?_) (fun i h j h2=>ih i h j h2 (h1 i h j h2)) hc hx
   have hn:rows≠[]:=by rintro rfl;simp at hk
   unfold Mem.wo
   rw[if_neg (stg_ne hb hsz hm hR h0 hn)]
   exact hm k hk
 |ms t b o n c=>exact .ms t b o n c
 |own esz t b u c rows off cap cs hsz hm hR hc hx hu he ih=>
  cases hs with
  |own _ _ _ _ _ _ h0 h1=>
   refine .own esz t b u c rows off cap cs hsz (fun k hk=> ?_) (fun i h j h2=>ih i h j h2 (h1 i h j h2)) hc hx hu he
   have hn:rows≠[]:=by rintro rfl;simp at hk
   unfold Mem.wo
   rw[if_neg (stg_ne hb hsz hm hR h0 hn)]
   exact hm k hk
 |pc l b off cs hm _ ih=>cases hs
 |ifc t x v _ ih=>cases hs
 |lp t b o=>exact .lp t b o
 |mpt t b=>cases hs
 |ai k n=>cases hs
 |cl f a c va vc hl hl' _ _ ih ih'=>cases hs
 |fl esz rows b off cs hsz hm _ hx ih=>cases hs
set_option maxHeartbeats 4000000
def StgB:Blk→Prop
 | .cells l=>∀ i (h:i<l.length),Stg l[i]
 | .tail _ _=>True
 | .map _ _=>False
theorem stg_RL{M:Mem}{bb:Nat}(hb:∀ o w,M bb o=some w→∃ k n,w= .int k n){l:List AV}{cs:List Value}(hl:∀ i (h:i<l.length),Stg l[i])(h:RL M l cs):RL (M.wo bb) l cs:=
 ⟨h.1,fun i h1 h2=>Stg.wo hb (h.2 i h1 h2) (hl i h1)⟩
end Go.Sx
namespace Go.Proofs.YtdcpcffpapiadaaGreatDoor
open Go.Sx Go.Proofs Go.RowKit
theorem prbs_len(l:List Prb):(l.map Prb.cells).flatten.length=l.length * 2:=by
 induction l with
 |nil=>rfl
 |cons p l ih=>simp only[List.map_cons,List.flatten_cons,List.length_append,ih,List.length_cons];show 2+_=_;omega
theorem inv_thawN{M M':Mem}{w0:Base}{w w':World}{σ τ:Store}{t b c:Nat}{l:List Prb}{v:Value}(hI:Inv Tryz.prog M w0 σ w)(hI':Inv Tryz.prog M' ⟨w,M⟩ ((t,b,.tail (l.length * 2) c)::τ) w')(hM:M.le M')
  (hv:R M' (.own 2 t b (l.length * 2) c (l.map Prb.cells)) v) (hn:l≠[]) (hτ:∀ e∈τ,StgB e.2.2) (L:Nat):
  ∃ (cap:Nat) (post:List AV),v= .slice (some ⟨b,0,none⟩) l.length cap∧l.length≤cap∧cap≤maxLen∧M.le (M'.wo b)∧Inv Tryz.prog (M'.wo b) w0 ((L,b,.cells ((l.map Prb.cells).flatten++post))::(τ++σ)) w'∧∀ o w,M' b o=some w→∃ k n,w= .int k n:=by
 obtain⟨off,cap,cs,rfl,hr,h4,h5,h6,h8⟩:=hv.of_own
 have hlen:0<l.length:=List.length_pos_iff.2 hn
 have hll:(l.map Prb.cells).length=l.length:=List.length_map _
 rw[hll]at h4 h6
 obtain⟨h6,h7⟩:off+l.length * 2=l.length * 2∧off+cap * 2≤c:=by
  rcases h6 with h|h
  ·omega
  ·exact h
 obtain rfl:off=0:=by omega
 have hb0:=hI'.st _ List.mem_cons_self
 obtain⟨hg,hN,cur,ty,hh,hcs,huc⟩:=hb0
 simp only at hg hN hh
 have hg:w.heap.size≤b:=hg
 have hcell:∀ o v,M' b o=some v→o<l.length * 2∧v=cs o:=fun o v h=>by
  have h1:o<l.length * 2:=by
   rcases Nat.lt_or_ge o (l.length * 2)with h1|h1
   ·exact h1
   ·rw[hN o h1]at h;cases h
  have h2:=hr.mem o (by rw[hll];exact h1)
  rw[Nat.zero_add,h]at h2
  exact⟨h1,by injection h2⟩
 have hcsv:∀ i (hi:i<l.length),cs (i * 2)= .int .i64 l[i].at_∧cs (i * 2+1)= .int .i64 l[i].code:=fun i hi=>by
  have h1:=hr.rel i (by rw[hll];exact hi) 0 (by rw[List.getElem_map];exact Nat.zero_lt_two)
  have h2:=hr.rel i (by rw[hll];exact hi) 1 (by rw[List.getElem_map];exact Nat.one_lt_two)
  simp only[List.getElem_map,Prb.cells,List.getElem_cons_zero,List.getElem_cons_succ,Nat.add_zero]at h1 h2
  exact⟨h1.of_v,h2.of_v⟩
 have hint:∀ o w,M' b o=some w→∃ k n,w= .int k n:=fun o v h=>by
  obtain⟨h1,rfl⟩:=hcell o v h
  have h2:=hcsv (o / 2) (by omega)
  rcases Nat.mod_two_eq_zero_or_one o with e|e
  ·exact⟨.i64,_,by rw[show o=o / 2 * 2 by omega];exact h2.1⟩
  ·exact⟨.i64,_,by rw[show o=o / 2 * 2+1 by omega];exact h2.2⟩
 have hb:Below w.heap.size w w':=⟨hI'.os,hI'.tape,hI'.output,hI'.size,hI'.old⟩
 have h1:=hI.after hb
 have hMb:∀ o,M b o=none:=fun o=>by
  cases h:M b o with
  |none=>rfl
  |some v=>
   have:=World.block_lt_of_cell? _ _ (hI.imm b o v h)
   simp at this;omega
 have hle:M.le (M'.wo b):=fun b' o v h=>by
  have hne:b'≠b:=fun e=>by rw[e,hMb o]at h;cases h
  unfold Mem.wo
  rw[if_neg hne];exact hM _ _ _ h
 have hold:∀ b' o,b'<w.heap.size→M b' o=none→(M'.wo b) b' o=none:=fun b' o hlt h0=>by
  unfold Mem.wo
  split
  ·rfl
  ·cases h:M' b' o with
   |none=>rfl
   |some v=>have h5:M b' o=some v:=hI'.bm b' o v h hlt;rw[h5]at h0;cases h0
 have hwo:∀ b' o,M' b' o=none→(M'.wo b) b' o=none:=fun b' o h=>by
  unfold Mem.wo;split
  ·rfl
  ·exact h
 have hnd:=hI'.nd
 simp only[List.map_cons,List.nodup_cons]at hnd
 have hσlt:∀ e∈σ,e.2.1<w.heap.size:=fun e he=>hI.lt_of he
 have hτge:∀ e∈τ,w.heap.size≤e.2.1:=fun e he=>(hI'.st e (List.mem_cons_of_mem _ he)).1
 refine⟨cap,List.replicate (c-l.length * 2) .any,by rw[hll],h4,h5,hle,⟨h1.os,h1.tape,h1.output,h1.size,h1.old,fun b' o v h=>hI'.imm b' o v ((M'.wo_le b) _ _ _ h),fun e he=> ?_,?_,fun g l hl=>(h1.gl g l hl).mono hle,h1.gw,fun b' o v h hlt=> ?_⟩,hint⟩
 ·rcases List.mem_cons.1 he with rfl|he
  ·refine⟨Nat.le_trans hI.size hg,fun o=>by simp[Mem.wo],cur,ty,hh,?_,fun i g1 g2=> ?_⟩
   ·simp only[List.length_append,List.length_replicate,Array.length_toList,prbs_len];omega
   ·by_cases i2:i<l.length * 2
    ·have hi2:i<(l.map Prb.cells).flatten.length:=by rw[prbs_len];exact i2
     rw[List.getElem_append_left hi2]
     have h9:=hI'.imm _ _ _ (hr.mem i (by rw[hll];exact i2))
     rw[Nat.zero_add]at h9
     have h9:cur[i]? =some (cs i):=by simpa[World.cell?,hh]using h9
     have h10:cur.toList[i]=cs i:=by simpa using(Array.getElem?_eq_some_iff.1 h9).2
     rw[h10]
     have hfl:=hr.flat
     have h11:=hfl.2 i hi2 (by simp[hll];omega)
     have h12:R M' ((l.map Prb.cells).flatten[i]) (cs i):=by simpa using h11
     have h13:∃ n,(l.map Prb.cells).flatten[i]=iv n:=by
      have hm:=List.getElem_mem (l:=(l.map Prb.cells).flatten) hi2
      obtain⟨r,hr1,hr2⟩:=List.mem_flatten.1 hm
      obtain⟨p,_,rfl⟩:=List.mem_map.1 hr1
      simp only[Prb.cells,List.mem_cons,List.not_mem_nil,or_false]at hr2
      rcases hr2 with e|e<;>exact⟨_,e⟩
     obtain⟨n,hn⟩:=h13
     rw[hn]at h12 ⊢
     rw[h12.of_v]
     exact .v _
    ·have e:((l.map Prb.cells).flatten++List.replicate (c-l.length * 2) AV.any)[i]= .any:=by
      rw[List.getElem_append_right (by rw[prbs_len];omega),List.getElem_replicate]
     rw[e];exact .any _
  ·rcases List.mem_append.1 he with he|he
   ·obtain⟨g1,g2⟩:=hI'.st e (List.mem_cons_of_mem _ he)
    have hS:=hτ e he
    refine⟨Nat.le_trans hI.size g1,?_⟩
    cases hx:e.2.2 with
    |cells l2=>rw[hx]at g2 hS;obtain⟨a1,cs2,t2,a2,a3⟩:=g2;exact⟨fun o=>hwo _ _ (a1 o),cs2,t2,a2,stg_RL hint hS a3⟩
    |tail u c=>rw[hx]at g2;obtain⟨a1,cs2,t2,a2,a3⟩:=g2;exact⟨fun o ho=>hwo _ _ (a1 o ho),cs2,t2,a2,a3⟩
    |map es k=>rw[hx]at hS;exact hS.elim
   ·obtain⟨g1,g2⟩:=h1.st e he
    have hlt:=hσlt e he
    obtain⟨_,g3⟩:=hI.st e he
    refine⟨g1,?_⟩
    cases hx:e.2.2 with
    |cells l2=>rw[hx]at g2 g3;obtain⟨a1,cs2,t2,a2,a3⟩:=g2;exact⟨fun o=>hold _ _ hlt (a1 o),cs2,t2,a2,a3.mono hle⟩
    |tail u c=>rw[hx]at g2 g3;obtain⟨a1,cs2,t2,a2,a3⟩:=g2;exact⟨fun o ho=>hold _ _ hlt (a1 o ho),cs2,t2,a2,a3⟩
    |map es k=>rw[hx]at g2 g3;obtain⟨a1,l2,a2,a3,a4⟩:=g2;exact⟨fun o=>hold _ _ hlt (a1 o),l2,a2,a3,a4.mono hle⟩
 ·simp only[List.map_cons,List.map_append,List.nodup_cons,List.mem_append,not_or]
  refine⟨⟨hnd.1,fun h=> ?_⟩,List.nodup_append.2 ⟨hnd.2,hI.nd,fun x hx y hy e=> ?_⟩⟩
  ·obtain⟨e,he,heq⟩:=List.mem_map.1 h
   have:=hσlt e he
   omega
  ·obtain⟨e1,he1,rfl⟩:=List.mem_map.1 hx
   obtain⟨e2,he2,rfl⟩:=List.mem_map.1 hy
   have:=hσlt e2 he2
   have:=hτge e1 he1
   omega
 ·have hlt2:b'<w.heap.size:=Nat.lt_of_lt_of_le hlt hI.size
  exact hI.bm b' o v (hI'.bm b' o v ((M'.wo_le b) _ _ _ h) hlt2) hlt
def SWT(N:Nat)(σ:Store)(s:SC)(Q:Exit→Regs→Store→Prop)(rg:Regs)(σ1:Store):Prop:=∀ c,compC Tryz.prog N c=some s→∀ (M:Mem) (w0:Base) (ws:World),Inv Tryz.prog M w0 σ ws→∀ (M1:Mem) (a:Act) (w:World),M.le M1→Inv Tryz.prog M1 ⟨ws,M⟩ σ1 w→RegsOK M1 rg a→a.tmps.size=N→a.defers=Glob.df Tryz.prog→cwp Tryz.prog c (conc Tryz.prog M w0 N Q) a w
theorem SWT.start{N:Nat}{σ:Store}{s:SC}{Q:Exit→Regs→Store→Prop}{rg:Regs}(h:SWT N σ s Q rg []):SW Tryz.prog N s Q rg σ:=
 fun c hc M w0 a w hI hR hN hD=>h c hc M w0 w hI M a w (Mem.le.refl _) (inv_start hI) hR hN hD
theorem SWT.seq{N:Nat}{σ:Store}{x y:SC}{Q:Exit→Regs→Store→Prop}{rg:Regs}{σ1:Store}(hx:∀ l,x≠.dreg l)(h:SW Tryz.prog N x (fun e rg' σ'=>e= .normal∧SWT N σ y Q rg' σ') rg σ1):SWT N σ (.seq x y) Q rg σ1:=by
 intro c hc M w0 ws hI0 M1 a w hM hI hR hN hD
 rcases compC_inv hc with⟨ca,cb,rfl,h1,h2⟩|⟨id,ops,l1,l2,rfl,rfl,rfl,_⟩
 ·refine wp_seq (wp_mono (cwp_wp (h ca h1 M1 ⟨ws,M⟩ a w hI hR hN hD)) ?_)
  rintro e a2 w2 ⟨M2,rg2,σ2,g1,g2,g3,g4,g5,rfl,g6⟩
  refine cwp_wp (g6 cb h2 M w0 ws hI0 M2 a2 w2 (hM.trans g1) g2 g3 g4 g5)
 ·exact absurd rfl (hx l1)
theorem SWT.filt{N:Nat}{σ:Store}{s:SC}{Q:Exit→Regs→Store→Prop}{rg rg':Regs}{σ1:Store}(ks:List Nat)(hk:Go.Sx.filt ks rg=rg')(h:SWT N σ s Q rg' σ1):SWT N σ s Q rg σ1:=
 fun c hc M w0 ws hI0 M1 a w hM hI hR hN hD=>h c hc M w0 ws hI0 M1 a w hM hI (hk ▸ hR.filt ks) hN hD
theorem SWT.done{N:Nat}{σ:Store}{s:SC}{Q:Exit→Regs→Store→Prop}{rg:Regs}{σ1:Store}(h:SW Tryz.prog N s Q rg (σ1++σ)):SWT N σ s Q rg σ1:=by
 intro c hc M w0 ws hI0 M1 a w hM hI hR hN hD
 have hb:Below ws.heap.size ws w:=⟨hI.os,hI.tape,hI.output,hI.size,hI.old⟩
 have h1:=hI0.after hb
 have hσlt:∀ e∈σ,e.2.1<ws.heap.size:=fun e he=>hI0.lt_of he
 have hτge:∀ e∈σ1,ws.heap.size≤e.2.1:=fun e he=>(hI.st e he).1
 have hold:∀ b' o,b'<ws.heap.size→M b' o=none→M1 b' o=none:=fun b' o hlt h0=>by
  cases h:M1 b' o with
  |none=>rfl
  |some v=>have h5:M b' o=some v:=hI.bm b' o v h hlt;rw[h5]at h0;cases h0
 refine cwp_mono (h c hc M1 w0 a w ⟨h1.os,h1.tape,h1.output,h1.size,h1.old,hI.imm,fun e he=> ?_,?_,fun g l hl=>(h1.gl g l hl).mono hM,h1.gw,fun b' o v hv hlt=> ?_⟩ hR hN hD) fun e a3 w3 hh=>conc_le hM hh
 ·rcases List.mem_append.1 he with he|he
  ·exact⟨Nat.le_trans hI0.size (hτge e he),(hI.st e he).2⟩
  ·obtain⟨g1,g2⟩:=h1.st e he
   have hlt:=hσlt e he
   refine⟨g1,?_⟩
   cases hx:e.2.2 with
   |cells l2=>rw[hx]at g2;obtain⟨a1,cs2,t2,a2,a3⟩:=g2;exact⟨fun o=>hold _ _ hlt (a1 o),cs2,t2,a2,a3.mono hM⟩
   |tail u c=>rw[hx]at g2;obtain⟨a1,cs2,t2,a2,a3⟩:=g2;exact⟨fun o ho=>hold _ _ hlt (a1 o ho),cs2,t2,a2,a3⟩
   |map es k=>rw[hx]at g2;obtain⟨a1,l2,a2,a3,a4⟩:=g2;exact⟨fun o=>hold _ _ hlt (a1 o),l2,a2,a3,a4.mono hM⟩
 ·rw[List.map_append]
  refine List.nodup_append.2 ⟨hI.nd,hI0.nd,fun x hx y hy e=> ?_⟩
  obtain⟨e1,he1,rfl⟩:=List.mem_map.1 hx
  obtain⟨e2,he2,rfl⟩:=List.mem_map.1 hy
  have:=hσlt e2 he2
  have:=hτge e1 he1
  omega
 ·exact hI0.bm b' o v (hI.bm b' o v hv (Nat.lt_of_lt_of_le hlt hI0.size)) hlt
theorem SWT.wk{N:Nat}{σ:Store}{s:SC}{Q:Exit→Regs→Store→Prop}{rg rg':Regs}{σ1 σ2:Store}(hr:WkRL rg rg')(hs:Sub σ2 σ1)(h:SWT N σ s Q rg' σ2):SWT N σ s Q rg σ1:=
 fun c hc M w0 ws hI0 M1 a w hM hI hR hN hD=>h c hc M w0 ws hI0 M1 a w hM (hI.sub hs) (fun j=>(hr.lk j) _ _ (hR j)) hN hD
theorem SWT.thaw{N:Nat}{σ:Store}{s:SC}{Q:Exit→Regs→Store→Prop}{rg ks:Regs}{σ1 τ:Store}(l:List Prb)(i t b c L:Nat)(hn:l≠[])(hi:lk rg i= .own 2 t b (l.length * 2) c (l.map Prb.cells))(hp:σ1.Perm ((t,b,.tail (l.length * 2) c)::τ))(hS:∀ e∈τ,StgB e.2.2)(hks:∀ q∈ks,lk rg q.1=q.2∧Stg q.2)
  (h:∀ cap post,l.length≤cap→cap≤maxLen→SW Tryz.prog N s Q ((i,.ms L b 0 l.length cap)::ks) ((L,b,.cells ((l.map Prb.cells).flatten++post))::(τ++σ))):SWT N σ s Q rg σ1:=by
 intro cd hc M w0 ws hI0 M1 a w hM hI hR hN hD
 have h3:=hR i
 rw[hi]at h3
 obtain⟨cap,post,hv,hc1,hc2,hle,hI2,hint⟩:=inv_thawN hI0 (hI.perm hp) hM h3 hn hS L
 refine cwp_mono (h cap post hc1 hc2 cd hc (M1.wo b) w0 a w hI2 (fun x=> ?_) hN hD) fun e a3 w3 hh=>conc_le hle hh
 simp only[lk]
 cases e:Nat.beq i x with
 |true=>
  obtain rfl:=Nat.eq_of_beq_eq_true e
  rw[hv];exact .ms _ _ _ _ _
 |false=>
  show R _ (lk ks x) _
  have hk:∀ ks:Regs,(∀ q∈ks,lk rg q.1=q.2∧Stg q.2)→R (M1.wo b) (lk ks x) (a.tmps.getD x undef):=by
   intro ks
   induction ks with
   |nil=>intro _;exact .any _
   |cons q ks ih=>
    intro hq
    obtain⟨j,y⟩:=q
    simp only[lk]
    cases e2:Nat.beq j x with
    |true=>
     obtain rfl:=Nat.eq_of_beq_eq_true e2
     obtain⟨g1,g2⟩:=hq (j,y) List.mem_cons_self
     have:=hR j
     rw[g1]at this
     exact Stg.wo hint this g2
    |false=>exact ih fun q hm=>hq q (List.mem_cons_of_mem _ hm)
  exact hk ks hks
end Go.Proofs.YtdcpcffpapiadaaGreatDoor
set_option maxHeartbeats 4000000
namespace Go.Sx
open Go.RowKit
inductive FzN(b n c e:Nat)(rows:List (List AV)):Regs→Regs→Prop
 |nil:FzN b n c e rows [] []
 |m {i t:Nat} {r r':Regs} (h:FzN b n c e rows r r'):FzN b n c e rows ((i,.ms t b 0 n c)::r) ((i,.sl false e rows)::r')
 |same {i:Nat} {x:AV} {r r':Regs} (h:FzN b n c e rows r r'):FzN b n c e rows ((i,x)::r) ((i,x)::r')
theorem FzN.lk{b n c e:Nat}{rows:List (List AV)}{r r':Regs}(h:FzN b n c e rows r r')(i:Nat):lk r' i=lk r i∨∃ t,lk r i= .ms t b 0 n c∧lk r' i= .sl false e rows:=by
 induction h with
 |nil=>exact .inl rfl
 | @m j t _ _ _ ih=>
  simp only[Sx.lk]
  cases Nat.beq j i with
  |true=>exact .inr ⟨t,rfl,rfl⟩
  |false=>exact ih
 | @same j x _ _ _ ih=>
  simp only[Sx.lk]
  cases Nat.beq j i with
  |true=>exact .inl rfl
  |false=>exact ih
theorem flat_len'{e:Nat}:∀ (rows:List (List AV)),(∀ r∈rows,r.length=e)→rows.flatten.length=rows.length * e
 |[],_=>by simp
 |r::rows,h=>by rw[List.flatten_cons,List.length_append,flat_len' rows (fun r hr=>h r (by simp[hr])),h r (by simp),List.length_cons,Nat.succ_mul];omega
theorem WK_frzn{P:Program}[Glob P]{N:Nat}{cfg:Nat→Nat}{Q:Exit→Regs→Store→Prop}{a:AC}{k:List Fr}{rg rg':Regs}{σ σ':Store}{t b n c e:Nat}{rows:List (List AV)}{post:List AV}(hs:FzS t b (rows.flatten++post) σ σ')(hr:∀ r∈rows,r.length=e)(hn:n=rows.length)(hc:n≤c∧c≤maxLen)(hf:FzN b n c e rows rg rg')(h:WK P N cfg Q a k rg' σ'):WK P N cfg Q a k rg σ:=by
 refine⟨⟨rfl,?_⟩⟩
 intro cd hcd M w0 a w hI hR hN hD
 obtain⟨M',vs,hM,hI',hxs,hcell⟩:=(hI.perm hs.perm).freeze
 refine cwp_mono (h.h.h cd hcd M' w0 a w hI' (fun i=> ?_) hN hD) fun _ _ _ ⟨M2,rg2,σ2,h1,h2⟩=>⟨M2,rg2,σ2,hM.trans h1,h2⟩
 have h1:=(hR i).mono hM
 rcases hf.lk i with e0|⟨t',e1,e2⟩
 ·rw[e0];exact h1
 ·rw[e1]at h1
  rw[e2,h1.of_ms,hn]
  have hlen:=flat_len' rows hr
  have hvl:rows.length * e+post.length=vs.length:=by rw[← hxs.1,List.length_append,hlen]
  refine R.sl (M:=M') false e rows b 0 c (fun k=>vs.getD k default) (fun i hi=>hr _ (List.getElem_mem hi)) (fun k hk=> ?_) (fun i hi j hj=> ?_) (by omega) hc.2
  ·have hk':k<vs.length:=by omega
   rw[Nat.zero_add,hcell k hk',List.getD_eq_getElem?_getD,List.getElem?_eq_getElem hk'];rfl
  ·have hg:=flat_get hr i hi j hj
   obtain⟨g1,g2⟩:=List.getElem?_eq_some_iff.1 hg
   have g3:i * e+j<vs.length:=by omega
   have g4:=hxs.2 _ (by rw[List.length_append];omega) g3
   rw[List.getElem_append_left g1,g2]at g4
   rw[List.getD_eq_getElem?_getD,List.getElem?_eq_getElem g3]
   exact g4
end Go.Sx
namespace Go.Proofs.YtdcpcffpapiadaaGreatDoor
open Go.Sx Go.Proofs
open Go.Sort (swp)
theorem sortS_ok(l:List Prb)(d:Array Nat)(z:Nat)(hzz:d.size=z)(hz:d.size≤1000000):SrtS 26 [.v cmpV] l z d (stab (ltP l) d):=by
 intro b cap post τ
 refine Spec.runk (fun _=>0) Tryz.func26 comp26 era26 (Nat.le_of_ble_eq_true rfl) ?_
 repeat'(first|exact .nil|refine .k2 ?_|refine .r1 ?_ ?_|refine .r8 ?_ ?_|fail)
 refine VX_spec rfl (stable_ok l d z hzz hz b cap post τ) .nil (fun x σ' hR=> ?_) (fun ch σ' hR=> ?_)
 ·obtain⟨e1,rfl⟩:=hR
  cases e1
  repeat'(first|exact .nil|refine .k1 ?_|refine .k3 ?_|refine .r2 ?_ ?_|fail)
  exact⟨rfl,rfl⟩
 ·obtain⟨e1,_⟩:=hR;cases e1
theorem fl_range(l:List Prb):flD l (Array.range l.length)=(l.map Prb.cells).flatten:=by
 unfold flD
 rw[Array.toList_range]
 congr 1
 refine List.ext_getElem (by simp) fun i h1 h2=> ?_
 have hi:i<l.length:=by simpa using h1
 simp only[List.getElem_map,List.getElem_range]
 unfold nth
 rw[List.getD_eq_getElem?_getD,List.getElem?_eq_getElem hi];rfl
theorem fl_sort(l:List Prb)(hl:l≠[]):flD l (stab (ltP l) (Array.range l.length))=((sortP l).map Prb.cells).flatten:=by
 unfold flD sortP
 rw[if_neg hl,List.map_map];rfl
theorem sort_spec(l:List Prb)(hl:l≠[])(hz:l.length≤1000000)(b cap:Nat)(post:List AV)(τ:Store):Sx.Spec Tryz.prog 26 [.ms 12 b 0 l.length cap,.v cmpV] ((12,b,.cells ((l.map Prb.cells).flatten++post))::τ) fun x σ'=>x= .ret (.tup [])∧σ'=(12,b,.cells (((sortP l).map Prb.cells).flatten++post))::τ:=by
 have h:=sortS_ok l (Array.range l.length) l.length (by simp) (by simpa using hz) b cap post τ
 rw[fl_range,fl_sort l hl]at h
 exact h
theorem insert0_ok:Pure Tryz.prog 94 [.v (.slice none 0 0),iv 0,iv 0,.v cmpV] (.tup []):=by
 refine Pure.runk (fun _=>0) Tryz.func94 comp94 era94 (Nat.le_of_ble_eq_true rfl) fun σ=> ?_
 repeat'(first|exact .nil|refine .k0 ?_|refine .k1 ?_|refine .k2 ?_|refine .k6 ?_|refine .r1 ?_ ?_|fail)
 refine WK_loop (fun q rg σ'=>σ'=σ∧rg=[(0,.v (.slice none 0 0)),(1,iv 0),(2,iv 0),(3,.v cmpV),(8,iv 1)]) 0 rfl ⟨_,_,Zr,Zs,rfl,rfl⟩ ?_
 rintro q _ σ ⟨hσ,rfl⟩
 subst hσ
 repeat'(first|exact .nil|refine .k0 ?_|refine .k1 ?_|refine .k2 ?_|refine .k3 ?_|refine .k6 ?_|refine .k8 ?_|refine .k9 ?_|(refine .cd ?_ ?_<;>(intro hc;skip))|refine .r1 ?_ ?_|fail)
 all_goals first|(exact absurd hc (by decide))|exact Sx.Fin.intro Zs rfl
theorem stable0_ok:Pure Tryz.prog 62 [.v (.slice none 0 0),iv 0,.v cmpV] (.tup []):=by
 refine Pure.runk (fun _=>0) Tryz.func62 comp62 era62 (Nat.le_of_ble_eq_true rfl) fun σ=> ?_
 repeat'(first|exact .nil|refine .k0 ?_|refine .k1 ?_|refine .k2 ?_|refine .k6 ?_|refine .r1 ?_ ?_|fail)
 refine WK_loop (fun q rg σ'=>σ'=σ∧rg=[(0,.v (.slice none 0 0)),(1,iv 0),(2,.v cmpV),(6,iv 20),(7,iv 0),(8,iv 20)]) 0 rfl ⟨_,_,Zr,Zs,rfl,rfl⟩ ?_
 rintro q _ σ ⟨hσ,rfl⟩
 subst hσ
 repeat'(first|exact .nil|refine .k0 ?_|refine .k1 ?_|refine .k2 ?_|refine .k6 ?_|refine .k8 ?_|refine .k9 ?_|(refine .cd ?_ ?_<;>(intro hc;skip))|refine .r1 ?_ ?_|refine .an rfl (by intro hob;exact insert0_ok) ?_ ?_|fail)
 ·exact absurd hc (by decide)
 refine WK_loop (fun q rg σ'=>σ'=σ∧rg=[(0,.v (.slice none 0 0)),(1,iv 0),(2,.v cmpV),(6,iv 20)]) 0 rfl ⟨_,_,Zr,Zs,rfl,rfl⟩ ?_
 rintro q _ σ ⟨hσ,rfl⟩
 subst hσ
 repeat'(first|exact .nil|refine .k0 ?_|refine .k1 ?_|refine .k2 ?_|refine .k3 ?_|refine .k8 ?_|(refine .cd ?_ ?_<;>(intro hc;first|exact kt hc (by assumption)|skip))|refine .r1 ?_ ?_|fail)
 all_goals exact Sx.Fin.intro Zs rfl
theorem sort0_ok:Pure Tryz.prog 26 [.v (.slice none 0 0),.v cmpV] (.tup []):=by
 refine Pure.runk (fun _=>0) Tryz.func26 comp26 era26 (Nat.le_of_ble_eq_true rfl) fun σ=> ?_
 repeat'(first|exact .nil|refine .k1 ?_|refine .k2 ?_|refine .k3 ?_|refine .r1 ?_ ?_|refine .an rfl (by intro hob;exact stable0_ok) ?_ ?_|refine .r8 ?_ ?_|fail)
 exact Sx.Fin.intro Zs rfl
end Go.Proofs.YtdcpcffpapiadaaGreatDoor
