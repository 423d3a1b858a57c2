/- A new slice that is written to after it was built: from what is known for good back to a block of the store. -/
import Derived.Test.YtekngilbecjkhaaGreatDoorHi
import Derived.Test.YtekngilbecjkhaaGreatDoorHa
import Derived.Test.YtekngilbecjkhaaGreatDoorIa
import Derived.Test.YtekngilbecjkhaaGreatDoorEd
set_option linter.unusedSimpArgs false
set_option linter.unusedVariables false
set_option linter.unusedSectionVars false
set_option maxRecDepth 100000
set_option maxHeartbeats 4000000
namespace Go.Sx
open Go.RowKit Go.Proofs
inductive FzM(b o n c:Nat)(rows:List (List AV)):Regs→Regs→Prop
 |nil:FzM b o n c rows [] []
 |m {i t:Nat} {r r':Regs} (h:FzM b o n c rows r r'):FzM b o n c rows ((i,.ms t b o n c)::r) ((i,.sl false 1 rows)::r')
 |same {i:Nat} {x:AV} {r r':Regs} (h:FzM b o n c rows r r'):FzM b o n c rows ((i,x)::r) ((i,x)::r')
theorem FzM.lk{b o n c:Nat}{rows:List (List AV)}{r r':Regs}(h:FzM b o n c rows r r')(i:Nat):lk r' i=lk r i∨∃ t,lk r i= .ms t b o n c∧lk r' i= .sl false 1 rows:=by
 induction h with
 |nil=>exact .inl rfl
 | @m j t _ _ _ ih=>
  simp only[Sx.lk]
  cases Nat.beq j i with
  |true=>exact .inr ⟨t,rfl,rfl⟩
  |false=>exact ih
 | @same j x _ _ _ ih=>
  simp only[Sx.lk]
  cases Nat.beq j i with
  |true=>exact .inl rfl
  |false=>exact ih
theorem WK_frzm{P:Program}[Glob P]{N:Nat}{cfg:Nat→Nat}{Q:Exit→Regs→Store→Prop}{a:AC}{k:List Fr}{rg rg':Regs}{σ σ':Store}{t b n c:Nat}{pre ls post:List AV}(hs:FzS t b (pre++ls++post) σ σ')(hn:n=ls.length)(hc:n≤c∧c≤maxLen)(hr:FzM b pre.length n c (ls.map fun x=>[x]) rg rg')(h:WK P N cfg Q a k rg' σ'):WK P N cfg Q a k rg σ:=by
 refine⟨⟨rfl,?_⟩⟩
 intro cd hcd M w0 a w hI hR hN hD
 obtain⟨M',vs,hM,hI',hxs,hcell⟩:=(hI.perm hs.perm).freeze
 refine cwp_mono (h.h.h cd hcd M' w0 a w hI' (fun i=> ?_) hN hD) fun _ _ _ ⟨M2,rg2,σ2,h1,h2⟩=>⟨M2,rg2,σ2,hM.trans h1,h2⟩
 have h1:=(hR i).mono hM
 rcases hr.lk i with e|⟨t',e1,e2⟩
 ·rw[e];exact h1
 ·rw[e1]at h1
  rw[e2,h1.of_ms,hn]
  have hl:(ls.map fun x=>[x]).length=ls.length:=List.length_map _
  have:=R.sl (M:=M') false 1 (ls.map fun x=>[x]) b pre.length c (fun k=>vs.getD (pre.length+k) default) (fun i hi=>by rw[List.getElem_map];rfl) (fun k hk=> ?_) (fun i hi j hj=> ?_) (by rw[hl];omega) hc.2
  ·rw[hl]at this;exact this
  ·rw[hl]at hk
   have hk':pre.length+k<vs.length:=by rw[← hxs.1];simp;omega
   rw[hcell _ hk',List.getD_eq_getElem?_getD,List.getElem?_eq_getElem hk'];rfl
  ·rw[hl]at hi
   have hj0:j=0:=by rw[List.getElem_map]at hj;simp at hj;omega
   subst hj0
   have hk':pre.length+i<vs.length:=by rw[← hxs.1];simp;omega
   have hx:pre.length+i<(pre++ls++post).length:=by simp;omega
   have h3:=hxs.2 (pre.length+i) hx hk'
   simp only[List.getElem_map,List.getElem_cons_zero,Nat.mul_one,Nat.add_zero,List.getD_eq_getElem?_getD,List.getElem?_eq_getElem hk',Option.getD_some]
   have e:(pre++ls++post)[pre.length+i]=ls[i]:=by
    rw[List.getElem_append_left (by simp;omega),List.getElem_append_right (by omega)]
    simp
   rwa [e]at h3
end Go.Sx
namespace Go.Proofs.YtekngilbecjkhaaGreatDoor
open Go.Sx Go.Proofs Go.Tb Go.RowKit
def rowI(x:Int):List AV:=[iv x]
abbrev rowsI(l:List Int):List (List AV):=l.map rowI
theorem rowsI_eq(l:List Int):rowsI l=(l.map iv).map fun x=>[x]:=by rw[List.map_map];rfl
theorem inv_thaw{M M':Mem}{w0 w w':World}{σ:Store}{t b u c:Nat}{l:List Int}{v:Value}(hI:Inv Tryz.prog M w0 σ w)(hI':Inv Tryz.prog M' w [(t,b,.tail u c)] w')(hv:R M' (.own 1 t b u c (rowsI l)) v)(hn:l≠[])(L:Nat):
  ∃ (pre:List AV) (cap:Nat) (post:List AV),v= .slice (some ⟨b,pre.length,none⟩) l.length cap∧l.length≤cap∧cap≤maxLen∧Inv Tryz.prog M w0 ((L,b,.cells (pre++l.map iv++post))::σ) w':=by
 obtain⟨off,cap,cs,rfl,hr,h4,h5,h6,h8⟩:=hv.of_own
 have hl:(rowsI l).length=l.length:=by simp[rowsI]
 rw[hl]at h4 h6
 have hb:Below w.heap.size w w':=⟨hI'.os,hI'.tape,hI'.output,hI'.size,hI'.old⟩
 have h1:=hI.after hb
 obtain⟨hg,hN,cur,ty,hh,hcs,huc⟩:=hI'.st _ List.mem_cons_self
 have hlen:0<l.length:=List.length_pos_iff.2 hn
 have hu:off+l.length * 1=u∧off+cap * 1≤c:=by
  rcases h6 with h|h
  ·omega
  ·exact h
 have hfresh:∀ o,M b o=none:=fun o=>by
  cases h:M b o with
  |none=>rfl
  |some v=>
   have:=World.block_lt_of_cell? _ _ (hI.imm b o v h)
   simp at this hg;omega
 refine⟨List.replicate off .any,cap,List.replicate (c-u) .any,by rw[List.length_replicate,hl],h4,h5,h1.os,h1.tape,h1.output,h1.size,h1.old,h1.imm,fun e he=> ?_,?_,h1.gl,h1.gw⟩
 ·rcases List.mem_cons.1 he with rfl|he
  ·refine⟨Nat.le_trans hI.size hg,hfresh,cur,ty,hh,?_,fun i g1 g2=> ?_⟩
   ·simp only[List.length_append,List.length_replicate,List.length_map,Array.length_toList];omega
   ·by_cases i1:i<off
    ·have e:(List.replicate off AV.any++l.map iv++List.replicate (c-u) AV.any)[i]= .any:=by
      rw[List.getElem_append_left (by simp;omega),List.getElem_append_left (by simp;omega),List.getElem_replicate]
     rw[e];exact .any _
    ·by_cases i2:i-off<l.length
     ·have e:(List.replicate off AV.any++l.map iv++List.replicate (c-u) AV.any)[i]=iv l[i-off]:=by
       rw[List.getElem_append_left (by simp;omega),List.getElem_append_right (by simp;omega)]
       simp
      rw[e]
      have hk:i-off<(rowsI l).length * 1:=by rw[hl];omega
      have h9:=hI'.imm _ _ _ (hr.mem (i-off) hk)
      have h7:=hr.rel (i-off) (by omega) 0 (by simp[rowI])
      simp only[rowI,List.getElem_map,List.getElem_cons_zero,Nat.mul_one,Nat.add_zero]at h7
      rw[show off+(i-off)=i by omega,cell_at hh,h7.of_v]at h9
      have h10:cur.toList[i]= .int .i64 l[i-off]:=by
       have:=(Array.getElem?_eq_some_iff.1 h9).2
       simpa using this
      rw[h10]
      exact .v _
     ·have e:(List.replicate off AV.any++l.map iv++List.replicate (c-u) AV.any)[i]= .any:=by
       rw[List.getElem_append_right (by simp;omega),List.getElem_replicate]
      rw[e];exact .any _
  ·exact h1.st e he
 ·simp only[List.map_cons,List.nodup_cons]
  refine⟨fun h=> ?_,h1.nd⟩
  obtain⟨e,he,heq⟩:=List.mem_map.1 h
  have:=hI.lt_of he
  simp at hg
  omega
theorem spec_thaw{f:FuncId}{ys:List AV}{l:List Int}(h:Sx.Spec Tryz.prog f ys [] fun r σ'=>∃ t b u c,r= .ret (.own 1 t b u c (rowsI l))∧Sub [(t,b,.tail u c)] σ')(hn:l≠[])(L:Nat)(σ:Store):
  Sx.Spec Tryz.prog f ys σ fun r σ'=>∃ (b cap:Nat) (pre post:List AV),l.length≤cap∧cap≤maxLen∧r= .ret (.ms L b pre.length l.length cap)∧σ'=(L,b,.cells (pre++l.map iv++post))::σ:=by
 intro M w0 w cs hI hR
 refine(h M w w cs (inv_start hI) hR).mono fun e w' ⟨M',r,σ',hM,hI',hr,t,b,u,c,e1,hs⟩=> ?_
 subst e1
 cases e with
 |returned v=>
  obtain⟨pre,cap,post,hv,hc1,hc2,hI2⟩:=inv_thaw hI (hI'.sub hs) hr hn L
  refine⟨M,_,_,Mem.le.refl _,hI2,?_,b,cap,pre,post,hc1,hc2,rfl,rfl⟩
  rw[hv];exact .ms _ _ _ _ _
 |_=>exact hr.elim
theorem WK_cut{N:Nat}{cfg:Nat→Nat}{Q:Exit→Regs→Store→Prop}{a:AC}{k:List Fr}{rg:Regs}{σ:Store}(l:List Int)(j i:Nat)(y:Value)(L:Nat)(hn:l≠[])
  (h:WK Tryz.prog N cfg (fun e rg' σ'=>e= .normal∧lk rg' j= .v y∧∃ t b u c,lk rg' i= .own 1 t b u c (rowsI l)∧Sub [(t,b,.tail u c)] σ') a [] rg [])
  (h2:∀ b cap pre post,l.length≤cap→cap≤maxLen→FK Tryz.prog N cfg Q .normal k [(j,.v y),(i,.ms L b (List.length pre) l.length cap)] ((L,b,.cells (pre++l.map iv++post))::σ)):WK Tryz.prog N cfg Q a k rg σ:=by
 refine⟨⟨rfl,?_⟩⟩
 intro cd hcd M w0 a w hI hR hN hD
 refine cwp_mono (h.h.h cd hcd M w a w (inv_start hI) hR hN hD) fun e a' w' ⟨M',rg',σ',hM,hI',hR',hN',hD',hq⟩=> ?_
 obtain⟨rfl,hj,t,b,u,c,hi,hs⟩:=hq
 have h3:=hR' i
 rw[hi]at h3
 have h4:=hR' j
 rw[hj]at h4
 obtain⟨pre,cap,post,hv,hc1,hc2,hI2⟩:=inv_thaw hI (hI'.sub hs) h3 hn L
 refine⟨M,_,_,Mem.le.refl _,hI2,fun x=> ?_,hN',hD',(h2 b cap pre post hc1 hc2).h⟩
 simp only[lk]
 cases e1:Nat.beq j x with
 |true=>rw[← Nat.eq_of_beq_eq_true e1,h4.of_v];exact .v _
 |false=>
  cases e2:Nat.beq i x with
  |true=>rw[← Nat.eq_of_beq_eq_true e2,hv];exact .ms _ _ _ _ _
  |false=>exact .any _
end Go.Proofs.YtekngilbecjkhaaGreatDoor
namespace Go.Proofs.YtekngilbecjkhaaGreatDoor
open Go.Sx Go.Proofs Go.Tb
def carM:Int→List Int→Int
 |m,[]=>m
 |m,d::l=>carM ((d+m) / 65536) l
def carL:Int→List Int→List Int
 |_,[]=>[]
 |m,d::l=>(d+m) % 65536::carL ((d+m) / 65536) l
theorem carM_snoc:∀ (l:List Int) (m x:Int),carM m (l++[x])=(x+carM m l) / 65536
 |[],_,_=>rfl
 |d::l,m,x=>carM_snoc l _ x
theorem carL_snoc:∀ (l:List Int) (m x:Int),carL m (l++[x])=carL m l++[(x+carM m l) % 65536]
 |[],_,_=>rfl
 |d::l,m,x=>congrArg (_::·) (carL_snoc l _ x)
theorem carL_len:∀ (l:List Int) (m:Int),(carL m l).length=l.length
 |[],_=>rfl
 |d::l,m=>congrArg (·+1) (carL_len l _)
theorem carM_bd:∀ (l:List Int) (m:Int),(∀ x∈l, -1099511627776≤x∧x≤1099511627776)→(-1099511627776≤m∧m≤1099511627776)→-1099511627776≤carM m l∧carM m l≤1099511627776
 |[],_,_,h=>h
 |d::l,m,hl,h=>carM_bd l _ (fun x hx=>hl x (List.mem_cons_of_mem _ hx)) (by have:=hl d List.mem_cons_self;omega)
def dig:Nat→Int→List Int
 |0,_=>[]
 |n+1,z=>z % 65536::dig n (z / 65536)
def qn:Nat→Int→Int
 |0,z=>z
 |n+1,z=>qn n (z / 65536)
theorem dig_len:∀ (n:Nat) (z:Int),(dig n z).length=n
 |0,_=>rfl
 |n+1,z=>congrArg (·+1) (dig_len n _)
theorem dig_snoc:∀ (n:Nat) (z:Int),dig (n+1) z=dig n z++[qn n z % 65536]
 |0,_=>rfl
 |n+1,z=>congrArg (_::·) (dig_snoc n _)
theorem qn_succ:∀ (n:Nat) (z:Int),qn (n+1) z=qn n z / 65536
 |0,_=>rfl
 |n+1,z=>qn_succ n _
theorem dig_bd:∀ (n:Nat) (z:Int),∀ x∈dig n z,0≤x∧x<65536
 |0,_,x,h=>nomatch h
 |n+1,z,x,h=>by
  rcases List.mem_cons.1 h with rfl|h
  ·omega
  ·exact dig_bd n _ x h
theorem qn_bd:∀ (n:Nat) (z:Int),0≤z∧z<18446744073709551616→0≤qn n z∧qn n z<18446744073709551616
 |0,_,h=>h
 |n+1,z,h=>qn_bd n _ (by omega)
theorem rowsI_app(a b:List Int):rowsI (a++b)=rowsI a++rowsI b:=List.map_append
def Gr1(lab:Nat)(rows:List (List AV))(x:AV)(τ:Store):Prop:=(rows=[]∧x=nilA∧τ=[])∨∃ b u c,x= .own 1 lab b u c rows∧τ=[(lab,b,.tail u c)]
theorem Gr1.z{lab:Nat}:Gr1 lab [] nilA []:= .inl ⟨rfl,rfl,rfl⟩
theorem Gr1.s{lab b u c:Nat}{rows rows':List (List AV)}(h:rows'=rows):Gr1 lab rows (.own 1 lab b u c rows') [(lab,b,.tail u c)]:= .inr ⟨b,u,c,by rw[h],rfl⟩
theorem t_quo(A:Int):A.tdiv 65536=if 0≤A then A / 65536 else -((-A) / 65536):=by
 split
 ·exact Int.tdiv_eq_ediv_of_nonneg ‹_›
 ·rw[← Int.tdiv_eq_ediv_of_nonneg (by omega),Int.neg_tdiv,Int.neg_neg]
theorem t_rem(A:Int):A.tmod 65536=if 0≤A then A % 65536 else -((-A) % 65536):=by
 split
 ·exact Int.tmod_eq_emod_of_nonneg ‹_›
 ·rw[← Int.tmod_eq_emod_of_nonneg (by omega),Int.neg_tmod,Int.neg_neg]
theorem fl_neg{A:Int}(h1: -2199023255552≤A)(h2:A≤2199023255552)(h:A.tmod 65536<0):IntKind.i64.wrap (A.tmod 65536+65536)=A % 65536∧IntKind.i64.wrap (IntKind.i64.wrap (A.tdiv 65536)-1)=A / 65536:=by
 rw[t_rem]at h
 rw[t_rem,t_quo]
 split at h
 ·omega
 ·rw[if_neg ‹_›,if_neg ‹_›,i64w (by omega),i64w (n:= -(-A / 65536)) (by omega),i64w (by omega)];omega
theorem fl_pos{A:Int}(h1: -2199023255552≤A)(h2:A≤2199023255552)(h:¬A.tmod 65536<0):A.tmod 65536=A % 65536∧IntKind.i64.wrap (A.tdiv 65536)=A / 65536:=by
 rw[t_rem]at h
 rw[t_rem,t_quo]
 split at h
 ·rw[if_pos ‹_›,if_pos ‹_›,i64w (by omega)];omega
 ·rw[if_neg ‹_›,if_neg ‹_›,i64w (by omega)];omega
theorem carry_ok(d:List Int)(hl:d.length=8)(hb:∀ x∈d, -1099511627776≤x∧x≤1099511627776):Pure Tryz.prog 207 [.sl false 1 (rowsI d)] (.sl false 1 (rowsI (carL 0 d))):=by
 refine Pure.runk (fun _=>0) Tryz.func207 comp207 era207 (Nat.le_of_ble_eq_true rfl) fun σ=> ?_
 repeat'(first|exact .nil|refine .k0 ?_|refine .k1 ?_|refine .k2 ?_|refine .k6 ?_|refine .r1 ?_ ?_|fail)
 all_goals(try simp only[BL]at *)
 refine WK_loop (fun m rg σ'=>∃ (i:Nat) (x:AV) (τ:Store),i≤8∧m=8-i∧Gr1 30 (rowsI (carL 0 (d.take i))) x τ∧σ'=τ++σ∧rg=[(0,.sl false 1 (rowsI d)),(3,x),(4,iv (carM 0 (d.take i))),(5,iv i)]) 8 rfl ⟨_,_,Zr,Zs,0,_,_,Nat.zero_le _,rfl,Gr1.z,rfl,rfl⟩ ?_
 rintro m _ _ ⟨i,x,τ,hi,hm,hR,rfl,rfl⟩
 have hM:=carM_bd (d.take i) 0 (fun x hx=>hb x (List.mem_of_mem_take hx)) (by omega)
 have hA:i<8→∃ A,d.getD i default+carM 0 (d.take i)=A∧IntKind.i64.wrap A=A∧carM 0 (d.take (i+1))=A / 65536∧carL 0 (d.take (i+1))=carL 0 (d.take i)++[A % 65536]∧-2199023255552≤A∧A≤2199023255552:=fun h=>by
  have hx:=hb _ (getD_mem (l:=d) (i:=i) (by omega))
  refine⟨_,rfl,i64w (by omega),?_,?_,by omega,by omega⟩
  ·rw[List.take_succ_eq_append_getElem (by omega),← getD_eq (by omega),carM_snoc]
  ·rw[List.take_succ_eq_append_getElem (by omega),← getD_eq (by omega),carL_snoc]
 rcases hR with⟨hE,rfl,rfl⟩|⟨b3,u3,c3,rfl,rfl⟩
 all_goals
  repeat'(first|exact .nil|refine .k0 ?_|refine .k1 ?_|refine .k2 ?_|refine .k6 ?_|refine .k7 ?_|refine .k8 ?_|refine .k9 ?_|(refine .cd ?_ ?_<;>(intro hc;skip))|refine .r1 ?_ ?_|refine .t1 ?_ ?_ ?_|refine .u1 ?_ ?_ ?_ (fun b u c=> ?_)|refine .u2 ?_ ?_ ?_ (fun b u c=> ?_)|(show List.all _ _=true;rfl)|fail)
  try any_goals((intro hob;first|(simp_all;done)|fail))
  all_goals(try simp only[BL]at *)
  all_goals try(show(_:Nat)≤_;simp only[List.length_map,carL_len,List.length_take,List.length_cons,List.length_nil];omega)
 any_goals
  obtain⟨A,e0,e1,e4,e5,h1,h2⟩:=hA (by omega)
  clear hA
  simp only[e0,e1]at hc ⊢
  first|(obtain⟨g1,g2⟩:=fl_neg h1 h2 hc;rw[g1,g2])|(obtain⟨g1,g2⟩:=fl_pos h1 h2 hc;rw[g1,g2])
  refine⟨m-1,by omega,_,_,Zr,Zs,i+1,_,_,by omega,by omega,Gr1.s ?_,rfl,by rw[e4,i64w (by omega)];rfl⟩
  rw[e5,rowsI_app]
  first|(rw[hE];rfl)|rfl
 all_goals
  rw[show d.take i=d from List.take_of_length_le (by omega)]at *
 ·rw[hE];exact Zw
 ·exact Zw
abbrev uv(n:Int):AV:= .v (.int .u64 n)
theorem dig_four(z:Int):rowsI (dig 4 z)≠[]:=by simp[dig]
theorem dg_step{q:Int}(h:0≤q∧q<18446744073709551616):IntKind.i64.wrap (q.tmod 65536)=q % 65536∧IntKind.u64.wrap (q.tdiv 65536)=q / 65536:=by
 rw[t_rem,t_quo,if_pos h.1,if_pos h.1,i64w (by omega),IntKind.wrap_u64];omega
theorem rowsI_two{a b:List Int}{x:Int}(h:a=b++[x]):rowsI a=rowsI b++[rowI x]:=by rw[h,rowsI_app];rfl
theorem digits_own(hi lo:Int)(hlo:0≤lo∧lo<18446744073709551616)(σ:Store):Sx.Spec Tryz.prog 205 [.agg [iv hi,uv lo]] σ fun r σ'=>∃ t b u c,r= .ret (.own 1 t b u c (rowsI (dig 4 lo++dig 4 (IntKind.u64.wrap hi))))∧Sx.Sub ((t,b,.tail u c)::σ) σ':=by
 have hhi:0≤IntKind.u64.wrap hi∧IntKind.u64.wrap hi<18446744073709551616:=by rw[IntKind.wrap_u64];omega
 refine Spec.runk (fun _=>0) Tryz.func205 comp205 era205 (Nat.le_of_ble_eq_true rfl) ?_
 repeat'(first|exact .nil|refine .k0 ?_|refine .k1 ?_|refine .k2 ?_|refine .k6 ?_|refine .r1 ?_ ?_|(refine .m1 ?_ ?_;intro b)|fail)
 all_goals(try simp only[BL]at *)
 generalize IntKind.u64.wrap hi=h2 at *
 refine WK_loop (fun m rg σ'=>∃ (i:Nat) (x:AV) (τ:Store),i≤4∧m=4-i∧Gr1 22 (rowsI (dig i lo)) x τ∧σ'=τ++σ∧rg=[(3,x),(4,uv (qn i lo)),(5,uv h2),(6,iv i)]) 4 rfl ⟨_,_,Zr,Zs,0,_,_,Nat.zero_le _,rfl,Gr1.z,rfl,rfl⟩ ?_
 rintro m _ _ ⟨i,x,τ,hi,hm,hR,rfl,rfl⟩
 have hq:=qn_bd i lo hlo
 have hds:=dig_snoc i lo
 rcases hR with⟨hE,rfl,rfl⟩|⟨b3,u3,c3,rfl,rfl⟩
 all_goals
  repeat'(first|exact .nil|refine .k0 ?_|refine .k1 ?_|refine .k2 ?_|refine .k6 ?_|refine .k8 ?_|refine .k9 ?_|(refine .cd ?_ ?_<;>(intro hc;skip))|refine .r1 ?_ ?_|refine .u1 ?_ ?_ ?_ (fun b u c=> ?_)|refine .u2 ?_ ?_ ?_ (fun b u c=> ?_)|(show List.all _ _=true;rfl)|fail)
  try any_goals((intro hob;first|(simp_all;done)|fail))
  all_goals(try simp only[BL]at *)
  all_goals try(show(_:Nat)≤_;simp only[List.length_map,dig_len,List.length_cons,List.length_nil];omega)
  ·have e:=rowsI_two hds
   rw[(dg_step hq).1,(dg_step hq).2,← qn_succ]
   refine⟨m-1,by omega,_,_,Zr,Zs,i+1,_,_,by omega,by omega,Gr1.s ?_,rfl,by rw[i64w (by omega)];rfl⟩
   rw[e]
   first|(rw[hE];rfl)|rfl
  ·have hi4:i=4:=by omega
   subst hi4
   first|exact absurd hE (dig_four lo)|(
    clear hq hds
    refine WK_loop (fun m rg σ'=>∃ (i:Nat) (b u c:Nat),i≤4∧m=4-i∧σ'=(22,b,.tail u c)::σ∧rg=[(3,.own 1 22 b u c (rowsI (dig 4 lo++dig i h2))),(5,uv (qn i h2)),(7,iv i)]) 4 rfl ⟨_,_,Zr,Zs,0,_,_,_,Nat.zero_le _,rfl,rfl,by rw[show dig 0 h2=[]from rfl,List.append_nil];rfl⟩ ?_
    rintro m _ _ ⟨i,b3,u3,c3,hi,hm,rfl,rfl⟩
    have hq:=qn_bd i h2 hhi
    have hds:=dig_snoc i h2
    repeat'(first|exact .nil|refine .k0 ?_|refine .k1 ?_|refine .k2 ?_|refine .k6 ?_|refine .k7 ?_|refine .k8 ?_|refine .k9 ?_|(refine .cd ?_ ?_<;>(intro hc;skip))|refine .r1 ?_ ?_|refine .u2 ?_ ?_ ?_ (fun b u c=> ?_)|(show List.all _ _=true;rfl)|fail)
    try any_goals((intro hob;first|(simp_all;done)|fail))
    all_goals(try simp only[BL]at *)
    all_goals try(show(_:Nat)≤_;simp only[List.length_map,List.length_append,dig_len,List.length_cons,List.length_nil];omega)
    ·have e:=rowsI_two (a:=dig 4 lo++dig (i+1) h2) (b:=dig 4 lo++dig i h2) (by rw[hds,← List.append_assoc])
     rw[(dg_step hq).1,(dg_step hq).2,← qn_succ]
     exact⟨m-1,by omega,_,_,Zr,Zs,i+1,_,_,_,by omega,by omega,rfl,by rw[i64w (n:=(i:Int)+1) (by omega),e];rfl⟩
    ·have hi4:i=4:=by omega
     subst hi4
     exact⟨_,_,_,_,rfl,.same (.refl _)⟩)
theorem pure_of_own{f:FuncId}{ys:List AV}{l:List Int}(h:∀ σ,Sx.Spec Tryz.prog f ys σ fun r σ'=>∃ t b u c,r= .ret (.own 1 t b u c (rowsI l))∧Sx.Sub ((t,b,.tail u c)::σ) σ'):Pure Tryz.prog f ys (.sl false 1 (rowsI l)):=
 ⟨fun σ M w0 w cs hI hR=>(h σ M w0 w cs hI hR).mono fun e w' ⟨M',r,σ',hM,hI',hr,t,b,u,c,e1,hs⟩=>by
  subst e1
  refine⟨M',.ret (.sl false 1 (rowsI l)),σ,hM,hI'.sub (Sx.Sub.trans (.cons (.refl _)) hs),?_,rfl,rfl⟩
  cases e with
  |returned v=>exact Sx.R.own_sl hr false
  |_=>exact hr.elim⟩
theorem dig_split(n m:Nat):∀ (z:Int),dig (n+m) z=dig n z++dig m (qn n z):=by
 induction n with
 |zero=>intro z;rw[Nat.zero_add];rfl
 |succ n ih=>intro z;rw[Nat.add_right_comm];exact congrArg (_::·) (ih _)
theorem dig4_mod(z:Int):dig 4 (z % 18446744073709551616)=dig 4 z:=by
 simp only[dig,List.cons.injEq,and_true]
 refine⟨by omega,by omega,by omega,by omega⟩
theorem dig_wide{z:Int}(h: -1000≤z∧z≤1000):dig 4 (loW z)++dig 4 (IntKind.u64.wrap (hiW z))=dig 8 z:=by
 rw[IntKind.wrap_u64,dig4_mod,show loW z=z % 18446744073709551616 from rfl,dig4_mod,dig_split 4 4 z]
 congr 2
 simp only[qn];unfold hiW;split<;>omega
theorem digits_new{z:Int}(h: -1000≤z∧z≤1000)(L:Nat)(σ:Store):Sx.Spec Tryz.prog 205 [wA z] σ fun r σ'=>∃ (b cap:Nat) (pre post:List AV),8≤cap∧cap≤maxLen∧r= .ret (.ms L b pre.length 8 cap)∧σ'=(L,b,.cells (pre++(dig 8 z).map iv++post))::σ:=by
 have h1:=spec_thaw (digits_own (hiW z) (loW z) (by unfold loW;omega) []) (by simp[dig]) L σ
 rw[dig_wide h,dig_len]at h1
 exact h1
theorem digW_ok{z:Int}(h: -1000≤z∧z≤1000):Pure Tryz.prog 205 [wA z] (.sl false 1 (rowsI (dig 8 z))):=by
 have h1:=pure_of_own (digits_own (hiW z) (loW z) (by unfold loW;omega))
 rw[dig_wide h]at h1
 exact h1
theorem ofR_ok{n:Int}(hn: -1000≤n∧n≤1000):Pure Tryz.prog 200 [iv n] (wA n):=by
 refine Pure.runk (fun _=>0) Tryz.func200 comp200 era200 (Nat.le_of_ble_eq_true rfl) fun σ=> ?_
 repeat'(first|exact .nil|refine .k0 ?_|refine .k1 ?_|refine .k2 ?_|refine .k7 ?_|refine .k9 ?_|(refine .cd ?_ ?_<;>(intro hc;skip))|refine .r1 ?_ ?_|(refine .l1 ?_;intro b)|fail)
 all_goals(try simp only[BL]at *)
 all_goals
  rw[show IntKind.u64.wrap n=loW n from IntKind.wrap_u64 n]
  first|rw[show wA n= .agg [iv (-1),uv (loW n)] by unfold wA hiW;rw[if_pos hc]]|rw[show wA n= .agg [iv 0,uv (loW n)] by unfold wA hiW;rw[if_neg hc]]
  exact Zw
def valL:List Int→Int
 |[]=>0
 |d::l=>d+65536 * valL l
theorem valL_dig:∀ (n:Nat) (z:Int),valL (dig n z)=z-qn n z * 65536 ^ n
 |0,z=>by simp[valL,dig,qn]
 |n+1,z=>by
  simp only[valL,dig,qn,valL_dig n,Int.pow_succ]
  have:qn n (z / 65536) * (65536 ^ n * 65536)=65536 * (qn n (z / 65536) * 65536 ^ n):=by
   rw[← Int.mul_assoc,Int.mul_comm]
  rw[this,Int.mul_sub]
  omega
theorem valL_bd:∀ (l:List Int),(∀ x∈l,0≤x∧x<65536)→0≤valL l∧valL l<65536 ^ l.length
 |[],_=>by simp[valL]
 |d::l,h=>by
  have h1:=h d List.mem_cons_self
  have h2:=valL_bd l fun x hx=>h x (List.mem_cons_of_mem _ hx)
  simp only[valL,List.length_cons,Int.pow_succ]
  omega
theorem valL_step{l:List Int}{m:Nat}(h:m<l.length):valL (l.drop m)=l.getD m default+65536 * valL (l.drop (m+1)):=by
 rw[List.drop_eq_getElem_cons h,getD_eq h];rfl
theorem makeR_ok(d:List Int)(hl:d.length=8)(hb:∀ x∈d,0≤x∧x<65536):Pure Tryz.prog 206 [.sl false 1 (rowsI d)] (.agg [iv (IntKind.i64.wrap (valL (d.drop 4))),uv (valL (d.take 4))]):=by
 refine Pure.runk (fun _=>0) Tryz.func206 comp206 era206 (Nat.le_of_ble_eq_true rfl) fun σ=> ?_
 repeat'(first|exact .nil|refine .k0 ?_|refine .k1 ?_|refine .k2 ?_|refine .k6 ?_|refine .r1 ?_ ?_|(refine .l1 ?_;intro b)|fail)
 all_goals(try simp only[BL]at *)
 refine WK_loop (fun m rg σ'=>m≤4∧σ'=(2,b,.cells [iv 0,uv 0])::σ∧rg=[(0,.sl false 1 (rowsI d)),(2,.lp 2 b 0),(3,uv (valL ((d.take 4).drop m))),(4,uv (valL ((d.drop 4).drop m))),(5,iv ((m:Int)-1))]) 4 rfl ⟨_,_,Zr,Zs,Nat.le_refl _,rfl,by rw[List.drop_of_length_le (by simp;omega),List.drop_of_length_le (by simp;omega)];rfl⟩ ?_
 rintro m _ _ ⟨hm,rfl,rfl⟩
 have hbl:=valL_bd ((d.take 4).drop m) fun x hx=>hb x (List.mem_of_mem_take (List.mem_of_mem_drop hx))
 have hbh:=valL_bd ((d.drop 4).drop m) fun x hx=>hb x (List.mem_of_mem_drop (List.mem_of_mem_drop hx))
 repeat'(first|exact .nil|refine .k0 ?_|refine .k1 ?_|refine .k2 ?_|refine .k6 ?_|refine .k7 ?_|refine .k8 ?_|refine .k9 ?_|(refine .cd ?_ ?_<;>(intro hc;skip))|refine .r1 ?_ ?_|refine .t1 ?_ ?_ ?_|fail)
 try any_goals((intro hob;(simp only[BL]at *;omega)))
 all_goals(try simp only[BL]at *)
 ·obtain⟨k,rfl⟩:∃ k,m=k+1:=⟨m-1,by omega⟩
  have hk:k<4:=by omega
  have e1:=valL_step (l:=d.take 4) (m:=k) (by simp;omega)
  have e2:=valL_step (l:=d.drop 4) (m:=k) (by simp;omega)
  rw[show((k+1:Nat):Int)-1=k by omega,i64w (n:=(k:Int)+4) (by omega),i64w (n:=(k:Int)-1) (by omega),show(k:Int).toNat=k from rfl,show((k:Int)+4).toNat=k+4 by omega]
  have g1:(d.take 4).getD k default=d.getD k default:=by simp[List.getD_eq_getElem?_getD,List.getElem?_take,hk]
  have g2:(d.drop 4).getD k default=d.getD (k+4) default:=by simp[List.getD_eq_getElem?_getD,Nat.add_comm]
  rw[g1]at e1
  rw[g2]at e2
  have hx1:=hb _ (getD_mem (l:=d) (i:=k) (by omega))
  have hx2:=hb _ (getD_mem (l:=d) (i:=k+4) (by omega))
  have hp:(65536:Int) ^ (3-k)≤281474976710656:=by
   have:k=0∨k=1∨k=2∨k=3:=by omega
   rcases this with rfl|rfl|rfl|rfl<;>decide
  have hl1:(List.drop (k+1) (List.take 4 d)).length=3-k:=by simp;omega
  have hl2:(List.drop (k+1) (List.drop 4 d)).length=3-k:=by simp;omega
  rw[hl1]at hbl
  rw[hl2]at hbh
  refine⟨k,by omega,_,_,Zr,Zs,by omega,rfl,?_⟩
  rw[e1,e2]
  generalize valL (List.drop (k+1) (List.take 4 d))=A at *
  generalize valL (List.drop (k+1) (List.drop 4 d))=B at *
  simp only[IntKind.wrap_u64]
  have hA:A<281474976710656:=by omega
  have hB:B<281474976710656:=by omega
  clear hp hl1 hl2
  rw[show(A * 65536 % 18446744073709551616+d.getD k default % 18446744073709551616) % 18446744073709551616=d.getD k default+65536 * A by omega,show(B * 65536 % 18446744073709551616+d.getD (k+4) default % 18446744073709551616) % 18446744073709551616=d.getD (k+4) default+65536 * B by omega]
 ·rw[i64w (by omega)];omega
 ·rw[show m=0 by omega];exact Zw
theorem mk_dig{z:Int}(h: -1000≤z∧z≤1000):Pure Tryz.prog 206 [.sl false 1 (rowsI (dig 8 z))] (wA z):=by
 have h1:=makeR_ok (dig 8 z) (dig_len _ _) (dig_bd _ _)
 have e1:valL ((dig 8 z).take 4)=loW z:=by
  rw[dig_split 4 4 z,List.take_left' (dig_len _ _),valL_dig]
  simp only[qn];unfold loW;omega
 have e2:IntKind.i64.wrap (valL ((dig 8 z).drop 4))=hiW z:=by
  rw[dig_split 4 4 z,List.drop_left' (dig_len _ _),valL_dig,IntKind.wrap_i64]
  simp only[qn];unfold hiW;split<;>omega
 rw[e1,e2]at h1
 exact h1
theorem carL_add:∀ (n:Nat) (a b s:Int),carL (s-a-b) (List.zipWith (·+·) (dig n a) (dig n b))=dig n s
 |0,_,_,_=>rfl
 |n+1,a,b,s=>by
  simp only[dig,List.zipWith_cons_cons,carL]
  rw[show(a % 65536+b % 65536+(s-a-b)) / 65536=s / 65536-a / 65536-b / 65536 by omega,carL_add n,show(a % 65536+b % 65536+(s-a-b)) % 65536=s % 65536 by omega]
theorem carL_sub:∀ (n:Nat) (a b s:Int),carL (s-a+b) (List.zipWith (·- ·) (dig n a) (dig n b))=dig n s
 |0,_,_,_=>rfl
 |n+1,a,b,s=>by
  simp only[dig,List.zipWith_cons_cons,carL]
  rw[show(a % 65536-b % 65536+(s-a+b)) / 65536=s / 65536-a / 65536+b / 65536 by omega,carL_sub n,show(a % 65536-b % 65536+(s-a+b)) % 65536=s % 65536 by omega]
theorem carL_two:∀ (n:Nat) (a s:Int),carL (s-2 * a) ((dig n a).map (2 * ·))=dig n s
 |0,_,_=>rfl
 |n+1,a,s=>by
  simp only[dig,List.map_cons,carL]
  rw[show(2 * (a % 65536)+(s-2 * a)) / 65536=s / 65536-2 * (a / 65536) by omega,carL_two n,show(2 * (a % 65536)+(s-2 * a)) % 65536=s % 65536 by omega]
theorem get_mid{pre ls post:List AV}{i:Nat}{y:AV}(h:ls[i]? =some y):(pre++ls++post)[pre.length+i]? =some y:=by
 obtain⟨hi,_⟩:=List.getElem?_eq_some_iff.1 h
 rw[List.append_assoc,List.getElem?_append_right (by omega),Nat.add_sub_cancel_left,List.getElem?_append_left hi,h]
theorem over_mid{pre ls post:List AV}{i:Nat}{y:AV}(h:i<ls.length):over (pre++ls++post) (pre.length+i) [y]=pre++ls.set i y++post∧pre.length+i+1≤(pre++ls++post).length:=by
 refine⟨?_,by simp;omega⟩
 unfold over
 have e1:(pre++ls++post).take (pre.length+i)=pre++ls.take i:=by rw[List.append_assoc,List.take_length_add_append,List.take_append_of_le_length (by omega)]
 have e2:(pre++ls++post).drop (pre.length+i+[y].length)=ls.drop (i+1)++post:=by
  rw[List.append_assoc,List.length_singleton,Nat.add_assoc,List.drop_length_add_append,List.drop_append_of_le_length (by omega)]
 rw[e1,e2,List.set_eq_take_append_cons_drop,if_pos h]
 simp
def mixI(l l':List Int)(i:Nat):List Int:=l'.take i++l.drop i
theorem mixI_get{l l':List Int}{i:Nat}(h:i<l.length)(h':i<l'.length):((mixI l l' i).map iv)[i]? =some (iv (l.getD i default)):=by
 unfold mixI
 rw[List.getElem?_map,List.getElem?_append_right (by simp;omega),List.length_take,Nat.min_eq_left (by omega),Nat.sub_self,List.getElem?_drop,Nat.add_zero,List.getElem?_eq_getElem h,getD_eq h];rfl
theorem mixI_set{l l':List Int}{i:Nat}(h:i<l.length)(h':i<l'.length):((mixI l l' i).map iv).set i (iv (l'.getD i default))=(mixI l l' (i+1)).map iv:=by
 unfold mixI
 rw[← List.map_set,List.set_append_right _ _ (by simp;omega),List.length_take,Nat.min_eq_left (by omega),Nat.sub_self,List.drop_eq_getElem_cons h,List.set_cons_zero,List.take_succ_eq_append_getElem h',← getD_eq h',List.append_assoc];rfl
theorem mixI_len{l l':List Int}{i:Nat}(h:l'.length=l.length)(hi:i≤l.length):(mixI l l' i).length=l.length:=by unfold mixI;simp;omega
theorem zip_mem{f:Int→Int→Int}:∀ (l l':List Int),∀ z∈List.zipWith f l l',∃ x∈l,∃ y∈l',z=f x y
 |[],_,z,h=>by simp at h
 |_::_,[],z,h=>by simp at h
 |x::l,y::l',z,h=>by
  rw[List.zipWith_cons_cons]at h
  rcases List.mem_cons.1 h with rfl|h
  ·exact⟨x,List.mem_cons_self,y,List.mem_cons_self,rfl⟩
  ·obtain⟨x',hx,y',hy,e⟩:=zip_mem l l' z h
   exact⟨x',List.mem_cons_of_mem _ hx,y',List.mem_cons_of_mem _ hy,e⟩
theorem zip_get{f:Int→Int→Int}{l l':List Int}{i:Nat}(h:i<l.length)(h':i<l'.length):(List.zipWith f l l').getD i default=f (l.getD i default) (l'.getD i default):=by
 rw[getD_eq (by rw[List.length_zipWith];omega),getD_eq h,getD_eq h',List.getElem_zipWith]
theorem addR_ok{n k:Int}(ha: -1000≤n∧n≤1000)(hb: -1000≤k∧k≤1000)(hs: -1000≤n+k∧n+k≤1000):Pure Tryz.prog 201 [wA n,wA k] (wA (n+k)):=by
 have hM:=mk_dig hs
 have hC:=carry_ok (List.zipWith (·+·) (dig 8 n) (dig 8 k)) (by simp[dig_len]) (fun x hx=>by
  obtain⟨y,hy,z,hz,rfl⟩:=zip_mem _ _ _ hx
  have h1:=dig_bd _ _ _ hy
  have h2:=dig_bd _ _ _ hz
  omega)
 have h0:=carL_add 8 n k (n+k)
 rw[show n+k-n-k=0 by omega]at h0
 rw[h0]at hC
 refine Pure.runk (fun _=>0) Tryz.func201 comp201 era201 (Nat.le_of_ble_eq_true rfl) fun σ=> ?_
 repeat'(first|exact .nil|refine .k0 ?_|refine .k1 ?_|refine .k2 ?_|refine .r1 ?_ ?_|(refine .l1 ?_;intro b)|(refine .m1 ?_ ?_;intro b)|fail)
 all_goals(try simp only[BL]at *)
 refine VX_spec rfl (digits_new ha 50 _) OB.nil (fun x σ' hR=> ?_) (fun ch σ' hR=> ?_)
 rotate_left
 ·obtain⟨_,_,_,_,_,_,h,_⟩:=hR;cases h
 obtain⟨bx,cap,pre,post,hc1,hc2,e1,e2⟩:=hR
 cases e1;subst e2
 repeat'(first|exact .nil|refine .k0 ?_|refine .k1 ?_|refine .k2 ?_|refine .r1 ?_ ?_|fail)
 refine .an rfl (fun _=>digW_ok hb) ?_ ?_
 repeat'(first|exact .nil|refine .k0 ?_|refine .k1 ?_|refine .k2 ?_|refine .k6 ?_|refine .r1 ?_ ?_|fail)
 have hxl:(dig 8 n).length=8:=dig_len _ _
 have hyl:(dig 8 k).length=8:=dig_len _ _
 have hxb:=dig_bd 8 n
 have hyb:=dig_bd 8 k
 have hzl:(List.zipWith (·+·) (dig 8 n) (dig 8 k)).length=8:=by rw[List.length_zipWith,hxl,hyl];rfl
 have hzg:=fun(i:Nat) (h:i<8)=>zip_get (f:=(·+·)) (l:=dig 8 n) (l':=dig 8 k) (i:=i) (by omega) (by omega)
 generalize dig 8 n=X at *
 generalize dig 8 k=Y at *
 generalize hZ:List.zipWith (·+·) X Y=Z at *
 refine WK_loop (fun m rg σ'=>∃ (i:Nat),i≤8∧m=8-i∧σ'=(50,bx,.cells (pre++(mixI X Z i).map iv++post))::(4,b,.cells [iv 0,uv 0])::σ∧rg=[(4,.lp 4 b 0),(5,.ms 50 bx pre.length 8 cap),(6,.sl false 1 (rowsI Y)),(7,iv i)]) 8 rfl ⟨_,_,Zr,Zs,0,Nat.zero_le _,rfl,rfl,rfl⟩ ?_
 rintro m _ _ ⟨i,hi,hm,rfl,rfl⟩
 repeat'((fail_if_success (show WK _ _ _ _ (.reg s201_7) _ _ _));(first|exact .nil|refine .k0 ?_|refine .k1 ?_|refine .k2 ?_|refine .k3 ?_|refine .k6 ?_|refine .k8 ?_|refine .k9 ?_|(refine .cd ?_ ?_<;>(intro hc;skip))|refine .r1 ?_ ?_|refine .r8 ?_ ?_|fail))
 all_goals(try simp only[BL]at *)
 ·omega
 ·refine VY_ld1 (y:=iv (X.getD i default)) rfl rfl rfl (by rw[Nat.mul_one];exact get_mid (mixI_get (by omega) (by omega))) rfl OB.nil ?_
  repeat'(first|exact .nil|refine .k1 ?_|refine .r1 ?_ ?_|refine .t1 ?_ ?_ ?_|refine .r8 ?_ ?_|fail)
  try any_goals((intro hob;first|(simp_all;done)|fail))
  all_goals(try simp only[BL]at *)
  ·omega
  have hw:IntKind.i64.wrap (X.getD i default+Y.getD i default)=Z.getD i default:=by
   have h1:=hxb _ (getD_mem (l:=X) (i:=i) (by omega))
   have h2:=hyb _ (getD_mem (l:=Y) (i:=i) (by omega))
   rw[hzg i (by omega),i64w (by omega)]
  refine VY_st (cs':=pre++(mixI X Z (i+1)).map iv++post) rfl rfl rfl rfl rfl (by rw[Nat.mul_one,← mixI_set (by omega) (by omega),hw];exact over_mid (by rw[List.length_map,mixI_len (by omega) (by omega)];omega)) rfl OB.nil ?_
  repeat'(first|exact .nil|refine .k0 ?_|refine .k1 ?_|refine .k2 ?_|refine .r1 ?_ ?_|fail)
  exact⟨m-1,by omega,_,_,Zr,Zs,i+1,by omega,by omega,rfl,by rw[i64w (by omega)];rfl⟩
 ·rw[show i=8 by omega,show mixI X Z 8=Z by unfold mixI;rw[List.take_of_length_le (by omega),List.drop_of_length_le (by omega),List.append_nil]]
  refine WK_frzm (ls:=Z.map iv) (by repeat' first|exact .here|fail) (by rw[List.length_map,hzl]) ⟨hc1,hc2⟩ (.same (.m .nil)) ?_
  rw[← rowsI_eq]
  repeat'(first|exact .nil|refine .k2 ?_|refine .r1 ?_ ?_|fail)
  refine .an rfl (fun _=>hC) ?_ ?_
  repeat'(first|exact .nil|fail)
  refine .an rfl (fun _=>hM) ?_ ?_
  repeat'(first|exact .nil|refine .k0 ?_|refine .k1 ?_|refine .k7 ?_|refine .r1 ?_ ?_|fail)
  exact Zw
theorem subR_ok{n k:Int}(ha: -1000≤n∧n≤1000)(hb: -1000≤k∧k≤1000)(hs: -1000≤n-k∧n-k≤1000):Pure Tryz.prog 215 [wA n,wA k] (wA (n-k)):=by
 have hM:=mk_dig hs
 have hC:=carry_ok (List.zipWith (·- ·) (dig 8 n) (dig 8 k)) (by simp[dig_len]) (fun x hx=>by
  obtain⟨y,hy,z,hz,rfl⟩:=zip_mem _ _ _ hx
  have h1:=dig_bd _ _ _ hy
  have h2:=dig_bd _ _ _ hz
  omega)
 have h0:=carL_sub 8 n k (n-k)
 rw[show n-k-n+k=0 by omega]at h0
 rw[h0]at hC
 refine Pure.runk (fun _=>0) Tryz.func215 comp215 era215 (Nat.le_of_ble_eq_true rfl) fun σ=> ?_
 repeat'(first|exact .nil|refine .k0 ?_|refine .k1 ?_|refine .k2 ?_|refine .r1 ?_ ?_|(refine .l1 ?_;intro b)|(refine .m1 ?_ ?_;intro b)|fail)
 all_goals(try simp only[BL]at *)
 refine VX_spec rfl (digits_new ha 50 _) OB.nil (fun x σ' hR=> ?_) (fun ch σ' hR=> ?_)
 rotate_left
 ·obtain⟨_,_,_,_,_,_,h,_⟩:=hR;cases h
 obtain⟨bx,cap,pre,post,hc1,hc2,e1,e2⟩:=hR
 cases e1;subst e2
 repeat'(first|exact .nil|refine .k0 ?_|refine .k1 ?_|refine .k2 ?_|refine .r1 ?_ ?_|fail)
 refine .an rfl (fun _=>digW_ok hb) ?_ ?_
 repeat'(first|exact .nil|refine .k0 ?_|refine .k1 ?_|refine .k2 ?_|refine .k6 ?_|refine .r1 ?_ ?_|fail)
 have hxl:(dig 8 n).length=8:=dig_len _ _
 have hyl:(dig 8 k).length=8:=dig_len _ _
 have hxb:=dig_bd 8 n
 have hyb:=dig_bd 8 k
 have hzl:(List.zipWith (·- ·) (dig 8 n) (dig 8 k)).length=8:=by rw[List.length_zipWith,hxl,hyl];rfl
 have hzg:=fun(i:Nat) (h:i<8)=>zip_get (f:=(·- ·)) (l:=dig 8 n) (l':=dig 8 k) (i:=i) (by omega) (by omega)
 generalize dig 8 n=X at *
 generalize dig 8 k=Y at *
 generalize hZ:List.zipWith (·- ·) X Y=Z at *
 refine WK_loop (fun m rg σ'=>∃ (i:Nat),i≤8∧m=8-i∧σ'=(50,bx,.cells (pre++(mixI X Z i).map iv++post))::(4,b,.cells [iv 0,uv 0])::σ∧rg=[(4,.lp 4 b 0),(5,.ms 50 bx pre.length 8 cap),(6,.sl false 1 (rowsI Y)),(7,iv i)]) 8 rfl ⟨_,_,Zr,Zs,0,Nat.zero_le _,rfl,rfl,rfl⟩ ?_
 rintro m _ _ ⟨i,hi,hm,rfl,rfl⟩
 repeat'((fail_if_success (show WK _ _ _ _ (.reg s215_7) _ _ _));(first|exact .nil|refine .k0 ?_|refine .k1 ?_|refine .k2 ?_|refine .k3 ?_|refine .k6 ?_|refine .k8 ?_|refine .k9 ?_|(refine .cd ?_ ?_<;>(intro hc;skip))|refine .r1 ?_ ?_|refine .r8 ?_ ?_|fail))
 all_goals(try simp only[BL]at *)
 ·omega
 ·refine VY_ld1 (y:=iv (X.getD i default)) rfl rfl rfl (by rw[Nat.mul_one];exact get_mid (mixI_get (by omega) (by omega))) rfl OB.nil ?_
  repeat'(first|exact .nil|refine .k1 ?_|refine .r1 ?_ ?_|refine .t1 ?_ ?_ ?_|refine .r8 ?_ ?_|fail)
  try any_goals((intro hob;first|(simp_all;done)|fail))
  all_goals(try simp only[BL]at *)
  ·omega
  have hw:IntKind.i64.wrap (X.getD i default-Y.getD i default)=Z.getD i default:=by
   have h1:=hxb _ (getD_mem (l:=X) (i:=i) (by omega))
   have h2:=hyb _ (getD_mem (l:=Y) (i:=i) (by omega))
   rw[hzg i (by omega),i64w (by omega)]
  refine VY_st (cs':=pre++(mixI X Z (i+1)).map iv++post) rfl rfl rfl rfl rfl (by rw[Nat.mul_one,← mixI_set (by omega) (by omega),hw];exact over_mid (by rw[List.length_map,mixI_len (by omega) (by omega)];omega)) rfl OB.nil ?_
  repeat'(first|exact .nil|refine .k0 ?_|refine .k1 ?_|refine .k2 ?_|refine .r1 ?_ ?_|fail)
  exact⟨m-1,by omega,_,_,Zr,Zs,i+1,by omega,by omega,rfl,by rw[i64w (by omega)];rfl⟩
 ·rw[show i=8 by omega,show mixI X Z 8=Z by unfold mixI;rw[List.take_of_length_le (by omega),List.drop_of_length_le (by omega),List.append_nil]]
  refine WK_frzm (ls:=Z.map iv) (by repeat' first|exact .here|fail) (by rw[List.length_map,hzl]) ⟨hc1,hc2⟩ (.same (.m .nil)) ?_
  rw[← rowsI_eq]
  repeat'(first|exact .nil|refine .k2 ?_|refine .r1 ?_ ?_|fail)
  refine .an rfl (fun _=>hC) ?_ ?_
  repeat'(first|exact .nil|fail)
  refine .an rfl (fun _=>hM) ?_ ?_
  repeat'(first|exact .nil|refine .k0 ?_|refine .k1 ?_|refine .k7 ?_|refine .r1 ?_ ?_|fail)
  exact Zw
theorem negR_ok{n:Int}(hn: -1000≤n∧n≤1000):Pure Tryz.prog 213 [wA n] (wA (-n)):=by
 have h0:=ofR_ok (n:=0) (by omega)
 have h1:=subR_ok (n:=0) (k:=n) (by omega) hn (by omega)
 rw[Int.zero_sub]at h1
 refine Pure.runk (fun _=>0) Tryz.func213 comp213 era213 (Nat.le_of_ble_eq_true rfl) fun σ=> ?_
 repeat'(first|exact .nil|refine .k0 ?_|refine .k1 ?_|refine .k2 ?_|refine .k3 ?_|refine .k7 ?_|refine .r1 ?_ ?_|(refine .l1 ?_;intro b)|(refine .m1 ?_ ?_;intro b)|refine .an rfl (by intro hob;first|exact h0|exact h1|fail) ?_ ?_|fail)
 all_goals(try simp only[BL]at *)
 exact Zw
theorem sizeD_ok{n:Int}(hn: -1000≤n∧n≤1000):Pure Tryz.prog 208 [wA n] (.sl false 1 (rowsI (dig 8 n.natAbs))):=by
 have h0:=negR_ok hn
 have h1:=digW_ok (z:= -n) (by omega)
 have h2:=digW_ok hn
 refine Pure.runk (fun _=>0) Tryz.func208 comp208 era208 (Nat.le_of_ble_eq_true rfl) fun σ=> ?_
 repeat'(first|exact .nil|refine .k0 ?_|refine .k1 ?_|refine .k2 ?_|refine .k7 ?_|refine .k9 ?_|(refine .cd ?_ ?_<;>(intro hc;skip))|refine .r1 ?_ ?_|(refine .m1 ?_ ?_;intro b)|refine .an rfl (by intro hob;first|exact h0|exact h1|exact h2|fail) ?_ ?_|fail)
 all_goals(try simp only[BL]at *)
 ·rw[show(n.natAbs:Int)= -n by unfold hiW at hc;split at hc<;>omega];exact Zw
 ·rw[show(n.natAbs:Int)=n by unfold hiW at hc;split at hc<;>omega];exact Zw
def blw(a b:List Int):Nat→Bool
 |0=>false
 |m+1=>if a.getD m default=b.getD m default then blw a b m else decide (a.getD m default<b.getD m default)
theorem belowR_ok(a b:List Int)(ha:a.length=8)(hb:b.length=8):Pure Tryz.prog 210 [.sl false 1 (rowsI a),.sl false 1 (rowsI b)] (.v (.bool (blw a b 8))):=by
 refine Pure.runk (fun _=>0) Tryz.func210 comp210 era210 (Nat.le_of_ble_eq_true rfl) fun σ=> ?_
 repeat'(first|exact .nil|refine .k0 ?_|refine .k1 ?_|refine .k2 ?_|refine .k6 ?_|refine .r1 ?_ ?_|fail)
 all_goals(try simp only[BL]at *)
 refine WK_loop (fun m rg σ'=>m≤8∧blw a b 8=blw a b m∧σ'=σ∧rg=[(0,.sl false 1 (rowsI a)),(1,.sl false 1 (rowsI b)),(5,iv ((m:Int)-1))]) 8 rfl ⟨_,_,Zr,Zs,Nat.le_refl _,rfl,rfl,rfl⟩ ?_
 rintro m _ _ ⟨hm,hp,rfl,rfl⟩
 repeat'(first|exact .nil|refine .k0 ?_|refine .k1 ?_|refine .k2 ?_|refine .k5 ?_|refine .k6 ?_|refine .k7 ?_|refine .k8 ?_|refine .k9 ?_|(refine .cd ?_ ?_<;>(intro hc;skip))|refine .r1 ?_ ?_|refine .t1 ?_ ?_ ?_|fail)
 try any_goals((intro hob;(simp only[BL]at *;omega)))
 all_goals(try simp only[BL]at *)
 ·obtain⟨j,rfl⟩:∃ j,m=j+1:=⟨m-1,by omega⟩
  rw[show(((j+1:Nat):Int)-1).toNat=j by omega]at hc ⊢
  rw[hp,show blw a b (j+1)=_ from if_neg hc];exact Zw
 ·obtain⟨j,rfl⟩:∃ j,m=j+1:=⟨m-1,by omega⟩
  rw[show(((j+1:Nat):Int)-1).toNat=j by omega]at hc
  exact⟨j,by omega,_,_,Zr,Zs,by omega,by rw[hp];exact if_pos hc,rfl,by rw[i64w (by omega),show((j+1:Nat):Int)-1-1=j-1 by omega]⟩
 ·rw[hp,show m=0 by omega];exact Zw
theorem minusR_ok{n k:Int}:Pure Tryz.prog 211 [.sl false 1 (rowsI (dig 8 n)),.sl false 1 (rowsI (dig 8 k))] (.sl false 1 (rowsI (dig 8 (n-k)))):=by
 have hC:=carry_ok (List.zipWith (·- ·) (dig 8 n) (dig 8 k)) (by simp[dig_len]) (fun x hx=>by
  obtain⟨y,hy,z,hz,rfl⟩:=zip_mem _ _ _ hx
  have h1:=dig_bd _ _ _ hy
  have h2:=dig_bd _ _ _ hz
  omega)
 have h0:=carL_sub 8 n k (n-k)
 rw[show n-k-n+k=0 by omega]at h0
 rw[h0]at hC
 refine Pure.runk (fun _=>0) Tryz.func211 comp211 era211 (Nat.le_of_ble_eq_true rfl) fun σ=> ?_
 repeat'(first|exact .nil|refine .k0 ?_|refine .k1 ?_|refine .k2 ?_|refine .k6 ?_|refine .r1 ?_ ?_|fail)
 all_goals(try simp only[BL]at *)
 have hxl:(dig 8 n).length=8:=dig_len _ _
 have hyl:(dig 8 k).length=8:=dig_len _ _
 have hxb:=dig_bd 8 n
 have hyb:=dig_bd 8 k
 have hzl:(List.zipWith (·- ·) (dig 8 n) (dig 8 k)).length=8:=by rw[List.length_zipWith,hxl,hyl];rfl
 have hzg:=fun(i:Nat) (h:i<8)=>zip_get (f:=(·- ·)) (l:=dig 8 n) (l':=dig 8 k) (i:=i) (by omega) (by omega)
 generalize dig 8 n=X at *
 generalize dig 8 k=Y at *
 generalize hZ:List.zipWith (·- ·) X Y=Z at *
 refine WK_loop (fun m rg σ'=>∃ (i:Nat) (x:AV) (τ:Store),i≤8∧m=8-i∧Gr1 22 (rowsI (Z.take i)) x τ∧σ'=τ++σ∧rg=[(0,.sl false 1 (rowsI X)),(1,.sl false 1 (rowsI Y)),(5,x),(6,iv i)]) 8 rfl ⟨_,_,Zr,Zs,0,_,_,Nat.zero_le _,rfl,Gr1.z,rfl,rfl⟩ ?_
 rintro m _ _ ⟨i,x,τ,hi,hm,hR,rfl,rfl⟩
 rcases hR with⟨hE,rfl,rfl⟩|⟨b3,u3,c3,rfl,rfl⟩
 all_goals
  repeat'(first|exact .nil|refine .k0 ?_|refine .k1 ?_|refine .k2 ?_|refine .k4 ?_|refine .k6 ?_|refine .k8 ?_|refine .k9 ?_|(refine .cd ?_ ?_<;>(intro hc;skip))|refine .r1 ?_ ?_|refine .t1 ?_ ?_ ?_|refine .u1 ?_ ?_ ?_ (fun b u c=> ?_)|refine .u2 ?_ ?_ ?_ (fun b u c=> ?_)|(show List.all _ _=true;rfl)|fail)
  try any_goals((intro hob;first|(simp_all;done)|fail))
  all_goals(try simp only[BL]at *)
  all_goals try(show(_:Nat)≤_;simp only[List.length_map,List.length_take,List.length_cons,List.length_nil];omega)
  ·have h1:=hxb _ (getD_mem (l:=X) (i:=i) (by omega))
   have h2:=hyb _ (getD_mem (l:=Y) (i:=i) (by omega))
   have e:=rowsI_two (a:=Z.take (i+1)) (b:=Z.take i) (by rw[List.take_succ_eq_append_getElem (by omega),← getD_eq (by omega),hzg i (by omega)])
   rw[i64w (n:=X.getD i default-Y.getD i default) (by omega)]
   refine⟨m-1,by omega,_,_,Zr,Zs,i+1,_,_,by omega,by omega,Gr1.s ?_,rfl,by rw[i64w (by omega)];rfl⟩
   rw[e]
   first|(rw[hE];rfl)|rfl
  ·have hi8:Z.take i=Z:=List.take_of_length_le (by omega)
   first|(have h:=congrArg List.length hE;rw[hi8,List.length_map,hzl]at h;cases h;done)|(
    rw[hi8]
    refine .an rfl (fun _=>hC.wk ?_) ?_ ?_
    ·repeat' first|exact .refl _|refine .cons ?_ ?_|exact .own _
    repeat'(first|exact .nil|refine .k0 ?_|refine .k1 ?_|refine .k7 ?_|refine .r1 ?_ ?_|fail)
    exact Zw)
theorem twiceR_ok{n k:Int}(hk:k=0∨k=1):Pure Tryz.prog 209 [.sl false 1 (rowsI (dig 8 n)),iv k] (.sl false 1 (rowsI (dig 8 (2 * n+k)))):=by
 have hxl:(dig 8 n).length=8:=dig_len _ _
 have hxb:=dig_bd 8 n
 have hC:=carry_ok (((dig 8 n).map (2 * ·)).set 0 (2 * (dig 8 n).getD 0 default+k)) (by simp[dig_len]) (fun x hx=>by
  rcases List.mem_or_eq_of_mem_set hx with hx|rfl
  ·obtain⟨y,hy,rfl⟩:=List.mem_map.1 hx
   have h1:=hxb _ hy
   omega
  ·have h1:=hxb _ (getD_mem (l:=dig 8 n) (i:=0) (by omega))
   omega)
 have h0:carL 0 (((dig 8 n).map (2 * ·)).set 0 (2 * (dig 8 n).getD 0 default+k))=dig 8 (2 * n+k):=by
  show carL 0 ((2 * (n % 65536)+k)::(dig 7 (n / 65536)).map (2 * ·))=_
  have:=carL_two 7 (n / 65536) ((2 * n+k) / 65536)
  simp only[carL]
  rw[show(2 * (n % 65536)+k+0) / 65536=(2 * n+k) / 65536-2 * (n / 65536) by omega,this,show(2 * (n % 65536)+k+0) % 65536=(2 * n+k) % 65536 by omega]
  rfl
 rw[h0]at hC
 have hzl:((dig 8 n).map (2 * ·)).length=8:=by rw[List.length_map,hxl]
 have hzg:∀ i,i<8→((dig 8 n).map (2 * ·)).getD i default=2 * (dig 8 n).getD i default:=fun i h=>by rw[getD_eq (by omega),getD_eq (by omega),List.getElem_map]
 generalize dig 8 n=X at *
 generalize hZ:X.map (2 * ·)=Z at *
 refine Pure.runk (fun _=>0) Tryz.func209 comp209 era209 (Nat.le_of_ble_eq_true rfl) fun σ=> ?_
 repeat'((fail_if_success (show WK _ _ _ _ (.seq (.reg s209_2) _) _ _ _));(first|exact .nil|refine .k0 ?_|refine .k1 ?_|refine .k2 ?_|refine .r1 ?_ ?_|fail))
 refine WK_cut Z 1 5 (.int .i64 k) 50 (by intro e;rw[e]at hzl;cases hzl) ?_ fun b cap pre post hc1 hc2=> ?_
 ·repeat'(first|exact .nil|refine .k0 ?_|refine .k1 ?_|refine .k2 ?_|refine .k6 ?_|refine .r1 ?_ ?_|fail)
  refine WK_loop (fun m rg σ'=>∃ (i:Nat) (x:AV) (τ:Store),i≤8∧m=8-i∧Gr1 18 (rowsI (Z.take i)) x τ∧σ'=τ∧rg=[(0,.sl false 1 (rowsI X)),(1,iv k),(5,x),(6,iv i)]) 8 rfl ⟨_,_,Zr,Zs,0,_,_,Nat.zero_le _,rfl,Gr1.z,rfl,rfl⟩ ?_
  rintro m _ _ ⟨i,x,τ,hi,hm,hR,rfl,rfl⟩
  rcases hR with⟨hE,rfl,rfl⟩|⟨b3,u3,c3,rfl,rfl⟩
  all_goals
   repeat'(first|exact .nil|refine .k0 ?_|refine .k1 ?_|refine .k2 ?_|refine .k3 ?_|refine .k6 ?_|refine .k8 ?_|refine .k9 ?_|(refine .cd ?_ ?_<;>(intro hc;skip))|refine .r1 ?_ ?_|refine .t1 ?_ ?_ ?_|refine .u1 ?_ ?_ ?_ (fun b u c=> ?_)|refine .u2 ?_ ?_ ?_ (fun b u c=> ?_)|(show List.all _ _=true;rfl)|fail)
   try any_goals((intro hob;first|(simp_all;done)|fail))
   all_goals(try simp only[BL]at *)
   all_goals try(show(_:Nat)≤_;simp only[List.length_map,List.length_take,List.length_cons,List.length_nil];omega)
   ·have h1:=hxb _ (getD_mem (l:=X) (i:=i) (by omega))
    have e:=rowsI_two (a:=Z.take (i+1)) (b:=Z.take i) (by rw[List.take_succ_eq_append_getElem (by omega),← getD_eq (by omega),hzg i (by omega)])
    rw[i64w (n:=2 * X.getD i default) (by omega)]
    refine⟨m-1,by omega,_,_,Zr,Zs,i+1,_,_,by omega,by omega,Gr1.s ?_,rfl,by rw[i64w (by omega)];rfl⟩
    rw[e]
    first|(rw[hE];rfl)|rfl
   ·have hi8:Z.take i=Z:=List.take_of_length_le (by omega)
    first|(have h:=congrArg List.length hE;rw[hi8,List.length_map,hzl]at h;cases h;done)|(
     rw[hi8]
     exact⟨trivial,rfl,_,_,_,_,rfl,.refl _⟩)
 ·repeat'((fail_if_success (show WK _ _ _ _ (.reg s209_7) _ _ _));(first|exact .nil|refine .k0 ?_|refine .k1 ?_|refine .k2 ?_|refine .r1 ?_ ?_|refine .r8 ?_ ?_|fail))
  ·omega
  have h1:=hxb _ (getD_mem (l:=X) (i:=0) (by omega))
  have hz0:=hzg 0 (by omega)
  refine VX_ld1 (y:=iv (Z.getD 0 default)) rfl rfl rfl (get_mid (i:=0) (by rw[List.getElem?_map,List.getElem?_eq_getElem (by omega),getD_eq (by omega)];rfl)) OB.nil ?_
  repeat'((fail_if_success (show WK _ _ _ _ (.reg s209_7) _ _ _));(first|exact .nil|refine .k1 ?_|refine .r1 ?_ ?_|refine .r8 ?_ ?_|fail))
  all_goals try any_goals((intro hob;fail))
  ·omega
  refine VX_st (cs':=pre++(Z.set 0 (2 * X.getD 0 default+k)).map iv++post) rfl rfl rfl rfl rfl (by rw[hz0,i64w (by omega),List.map_set];exact over_mid (i:=0) (by rw[List.length_map];omega)) OB.nil ?_
  repeat'((fail_if_success (show WK _ _ _ _ (.reg s209_7) _ _ _));(first|refine .k0 ?_|refine .k1 ?_|fail))
  refine WK_frzm (ls:=(Z.set 0 (2 * X.getD 0 default+k)).map iv) (by repeat' first|exact .here|fail) (by rw[List.length_map,List.length_set]) ⟨hc1,hc2⟩ (.m .nil) ?_
  rw[← rowsI_eq]
  repeat'(first|exact .nil|refine .k2 ?_|refine .r1 ?_ ?_|fail)
  refine .an rfl (fun _=>hC) ?_ ?_
  repeat'(first|exact .nil|refine .k0 ?_|refine .k1 ?_|refine .k7 ?_|refine .r1 ?_ ?_|fail)
  exact Zw
theorem dig8_small{A:Nat}(h:A≤1000):dig 8 (A:Int)=[(A:Int),0,0,0,0,0,0,0]:=by
 simp only[dig,List.cons.injEq,and_true]
 refine⟨by omega,by omega,by omega,by omega,by omega,by omega,by omega,by omega⟩
theorem bit_at{A i:Nat}(h:A≤1000)(hi:i<128):((dig 8 (A:Int)).getD (i / 16) default / 2 ^ (i % 16)) % 2=((A / 2 ^ i % 2:Nat):Int):=by
 rw[dig8_small h]
 by_cases h16:i<16
 ·rw[show i / 16=0 by omega,show i % 16=i by omega]
  show((A:Int) / 2 ^ i) % 2=_
  norm_cast
 ·have hp:(2:Nat) ^ 16≤2 ^ i:=Nat.pow_le_pow_right (by decide) (by omega)
  rw[Nat.div_eq_of_lt (a:=A) (by omega)]
  have:i / 16=1∨i / 16=2∨i / 16=3∨i / 16=4∨i / 16=5∨i / 16=6∨i / 16=7:=by omega
  rcases this with e|e|e|e|e|e|e<;>(rw[e];show(0 / _:Int) % 2=_;rw[Int.zero_ediv];rfl)
theorem divideR_ok{n:Int}(hn: -1000≤n∧n≤1000):Pure Tryz.prog 202 [wA n,iv 1] (.tup [iv n,.v (.bool true)]):=by
 have h0:=sizeD_ok hn
 have h1:=ofR_ok (n:=1) (by omega)
 have h2:=sizeD_ok (n:=1) (by omega)
 rw[show((1:Int).natAbs:Int)=1 from rfl]at h2
 have hT0:=twiceR_ok (n:=0) (k:=0) (.inl rfl)
 have hT1:=twiceR_ok (n:=0) (k:=1) (.inr rfl)
 have hM:=minusR_ok (n:=1) (k:=1)
 rw[show(2 * 0+0:Int)=0 from rfl]at hT0
 rw[show(2 * 0+1:Int)=1 from rfl]at hT1
 rw[show(1-1:Int)=0 from rfl]at hM
 have hB0:=belowR_ok (dig 8 0) (dig 8 1) (dig_len _ _) (dig_len _ _)
 have hB1:=belowR_ok (dig 8 1) (dig 8 1) (dig_len _ _) (dig_len _ _)
 have hB2:=belowR_ok (dig 8 1) (dig 8 0) (dig_len _ _) (dig_len _ _)
 rw[show blw (dig 8 0) (dig 8 1) 8=true by decide]at hB0
 rw[show blw (dig 8 1) (dig 8 1) 8=false by decide]at hB1
 rw[show blw (dig 8 1) (dig 8 0) 8=false by decide]at hB2
 have hA:n.natAbs≤1000:=by omega
 have hbit:=fun i (hi:i<128)=>bit_at (i:=i) hA hi
 have hdb:=dig_bd 8 (n.natAbs:Int)
 have hdl:=dig_len 8 (n.natAbs:Int)
 generalize dig 8 (n.natAbs:Int)=D at *
 obtain⟨i0,q1,q2,q3,q4⟩:∃ i0,Tryz.prog.info? 3=some i0∧i0.zero=some (.int .i64 0)∧i0.size=1∧i0.bytes=8:=⟨_,rfl,rfl,rfl,rfl⟩
 have e:∀ i:Nat,i<128→(D.getD (IntKind.i64.wrap ((((i+1:Nat):Int)-1).tdiv 16)).toNat default / 2 ^ ((((i+1:Nat):Int)-1).tmod 16).toNat).tmod 2=((n.natAbs / 2 ^ i % 2:Nat):Int):=fun i hi=>by
  have h9:=hdb _ (getD_mem (l:=D) (i:=i / 16) (by omega))
  rw[show(((i+1:Nat):Int)-1)=(i:Int) by omega,Int.tdiv_eq_ediv_of_nonneg (by omega),Int.tmod_eq_emod_of_nonneg (a:=(i:Int)) (by omega),i64w (by omega),show((i:Int) / 16).toNat=i / 16 by omega,show((i:Int) % 16).toNat=i % 16 by omega,Int.tmod_eq_emod_of_nonneg (Int.ediv_nonneg h9.1 (Int.le_of_lt (Int.pow_pos (by decide)))),hbit i (by omega)]
 have e2:∀ i:Nat,0≤(((i+1:Nat):Int)-1).tmod 16∧(((i+1:Nat):Int)-1).tmod 16≤64:=fun i=>by
  rw[show(((i+1:Nat):Int)-1)=(i:Int) by omega,Int.tmod_eq_emod_of_nonneg (a:=(i:Int)) (by omega)];omega
 have e3:∀ i:Nat,i<128→0≤IntKind.i64.wrap ((((i+1:Nat):Int)-1).tdiv 16)∧IntKind.i64.wrap ((((i+1:Nat):Int)-1).tdiv 16)<D.length:=fun i hi=>by
  rw[show(((i+1:Nat):Int)-1)=(i:Int) by omega,Int.tdiv_eq_ediv_of_nonneg (by omega),i64w (by omega)];omega
 refine Pure.runk (fun _=>0) Tryz.func202 comp202 era202 (Nat.le_of_ble_eq_true rfl) fun σ=> ?_
 repeat'(first|exact .nil|refine .k0 ?_|refine .k1 ?_|refine .k2 ?_|refine .k7 ?_|refine .k9 ?_|(refine .cd ?_ ?_<;>(intro hc;skip))|refine .r1 ?_ ?_|(refine .m1 ?_ ?_;intro b)|refine .an rfl (by intro hob;first|exact h0|exact h1|exact h2|fail) ?_ ?_|fail)
 all_goals(try simp only[BL]at *)
 ·exact absurd hc (by decide)
 refine VX_mks rfl q1 q2 rfl q3 OB.nil (by rw[q4];decide) (by decide) fun b2=> ?_
 repeat'((fail_if_success (show WK _ _ _ _ (.seq (.reg s202_7) _) _ _ _));(first|exact .nil|refine .k0 ?_|refine .k1 ?_|refine .k2 ?_|refine .r1 ?_ ?_|fail))
 refine WK_frzm (pre:=[]) (ls:=List.replicate 8 (iv 0)) (post:=[]) (n:=8) (c:=8) FzS.here rfl ⟨Nat.le_refl _,by decide⟩ (.same (.same (.same (.same (.m (.same .nil)))))) ?_
 rw[show(List.replicate 8 (iv 0)).map (fun x=>[x])=rowsI (dig 8 0) by simp[dig];rfl]
 repeat'(first|exact .nil|refine .k0 ?_|refine .k1 ?_|refine .k2 ?_|refine .k6 ?_|refine .r1 ?_ ?_|fail)
 refine WK_loop (fun m rg σ'=>m≤128∧σ'=(2,b,.cells [iv (hiW n),.v (.int .u64 (loW n))])::σ∧rg=[(1,iv 1),(2,.lp 2 b 0),(6,.sl false 1 (rowsI D)),(7,.sl false 1 (rowsI (dig 8 1))),(8,.sl false 1 (rowsI (dig 8 0))),(9,iv ((n.natAbs / 2 ^ m:Nat):Int)),(10,iv ((m:Int)-1))]) 128 rfl ⟨_,_,Zr,Zs,Nat.le_refl _,rfl,by rw[Nat.div_eq_of_lt (Nat.lt_of_le_of_lt hA (by decide))];rfl⟩ ?_
 rintro m _ _ ⟨hm,rfl,rfl⟩
 cases m with
 |zero=>
  repeat'(first|exact .nil|refine .k0 ?_|refine .k1 ?_|refine .k2 ?_|refine .k4 ?_|refine .k6 ?_|refine .k7 ?_|refine .k8 ?_|refine .k9 ?_|(refine .cd ?_ ?_<;>(intro hc;first|exact kt hc (by assumption)|skip))|refine .r1 ?_ ?_|refine .t1 ?_ ?_ ?_|refine .an rfl (by intro hob;first|exact hT0|exact hB0|exact hB2|fail) ?_ ?_|fail)
  try any_goals((intro hob;first|(simp_all;done)|fail))
  all_goals(try simp only[BL]at *)
  ·exact absurd hc (by decide)
  ·exact absurd hc (by decide)
  ·rw[Nat.pow_zero,Nat.div_one]at hc;omega
  ·rw[Nat.pow_zero,Nat.div_one]
   have hlt:n<0:=by
    by_cases h:n<0
    ·exact h
    ·rw[show hiW n=0 from if_neg h]at hc;exact absurd hc (by decide)
   rw[i64w (by omega),show(0:Int)-n.natAbs=n by omega]
   exact Zw
  ·rw[Nat.pow_zero,Nat.div_one]
   have hlt:0≤n:=by
    by_cases h:n<0
    ·rw[show hiW n= -1 from if_pos h]at hc;exact absurd hc (by decide)
    ·omega
   rw[show(n.natAbs:Int)=n by omega]
   exact Zw
 |succ i=>
  repeat'(first|exact .nil|refine .k0 ?_|refine .k1 ?_|refine .k2 ?_|refine .k4 ?_|refine .k6 ?_|refine .k7 ?_|refine .k8 ?_|refine .k9 ?_|(refine .cd ?_ ?_<;>(intro hc;skip))|refine .r1 ?_ ?_|refine .t1 ?_ ?_ ?_|refine .an rfl (by intro hob;first|exact hT0|exact hB0|exact hB2|fail) ?_ ?_|fail)
  try any_goals((intro hob;first|(simp_all;done)|fail))
  all_goals(try simp only[BL]at *)
  all_goals try(exfalso;omega)
  ·exact e2 i
  ·rw[e i (by omega)]
   have hQ:n.natAbs / 2 ^ i=2 * (n.natAbs / 2 ^ (i+1))+n.natAbs / 2 ^ i % 2:=by rw[Nat.pow_succ,← Nat.div_div_eq_div_mul];omega
   have hQ2:n.natAbs / 2 ^ i≤1000:=Nat.le_trans (Nat.div_le_self _ _) hA
   have hB:n.natAbs / 2 ^ i % 2=0∨n.natAbs / 2 ^ i % 2=1:=by omega
   clear e hbit hA e2 e3
   generalize n.natAbs / 2 ^ i % 2=B at *
   generalize hq:n.natAbs / 2 ^ i=q at *
   generalize n.natAbs / 2 ^ (i+1)=q1 at *
   rcases hB with rfl|rfl
   all_goals
    have w1:IntKind.i64.wrap (2 * (q1:Int))=2 * (q1:Int):=i64w (by omega)
    have w2:IntKind.i64.wrap (2 * (q1:Int)+1)=2 * (q1:Int)+1:=i64w (by omega)
    repeat'(first|exact .nil|refine .k0 ?_|refine .k1 ?_|refine .k2 ?_|refine .k7 ?_|refine .k9 ?_|(refine .cd ?_ ?_<;>(intro hc;skip))|refine .r1 ?_ ?_|refine .an rfl (by intro hob;first|exact hT0|exact hT1|exact hB0|exact hB1|exact hM) ?_ ?_|fail)
    all_goals first
     |exact absurd hc (by decide)
     |exact absurd ‹(!false)=false› (by decide)
     |(have h9:=of_decide_eq_true hc;simp only[w1,w2]at h9;omega)
     |exact⟨i,by omega,_,_,Zr,Zs,by omega,rfl,by rw[hq,hQ];simp only[w1,w2];rw[i64w (by omega),show((i+1:Nat):Int)-1-1=i-1 by omega];simp⟩
  ·exact e3 i (by omega)
end Go.Proofs.YtekngilbecjkhaaGreatDoor
namespace Go.Sx
section
variable {P:Program}[Glob P]{cfg:Nat→Nat}{K:Regs→Store→Prop}{E:List PanicEntry→Store→Prop}{σ:Store}{l:List CI}{d:Nat}{xr:XR}{ps:List Prop}{og:Option Bool}
theorem VX_appz{t:TypeId}{esz bytes:Nat}{z:List Value}{x y:Operand}{w:AV}{rows:List (List AV)}(h:argO xr none [x,y]=some (og,[.v (.slice none 0 0),w],ps))(hw:rowsV esz w=some rows)(hps:OB ps)(hn:rows=[])
  (k:VX P cfg l K E ((d,.s (.v (.slice none 0 0)))::xr) σ):VX P cfg (⟨some d,.append t esz bytes z x y,none⟩::l) K E xr σ:=by
 obtain⟨_,he⟩:=argO_eq h
 unfold argO gX at h
 obtain⟨ps',h',_,_⟩:=needs_eq h
 have hog:og=none:=by split at h'<;>cases h';rfl
 subst hog
 have:=he hps rfl
 simp only[evs,List.cons.injEq,and_true]at this
 constructor
 simp only[vcX,vcG,vcO,this.1,this.2,hw]
 exact⟨by rw[hn];simp,fun _=>k.h,fun e=>absurd hn e⟩
end
end Go.Sx
namespace Go.Proofs.YtekngilbecjkhaaGreatDoor
open Go.Sx Go.Proofs Go.Tb
def nmF(l:List Fac):List Str:=l.foldl (fun a f=>putL a f.name) []
theorem nmF_snoc{l:List Fac}{i:Nat}(h:i<l.length):nmF (l.take (i+1))=putL (nmF (l.take i)) (l.getD i default).name:=by
 unfold nmF
 rw[List.take_succ_eq_append_getElem h,List.foldl_append,← getD_eq h];rfl
theorem fold_srt:∀ (l:List Fac) (a:List Str),Srt a→Srt (l.foldl (fun a f=>putL a f.name) a)∧(∀ x,x∈l.foldl (fun a f=>putL a f.name) a↔x∈a∨x∈l.map Fac.name)∧(l.foldl (fun a f=>putL a f.name) a).length≤a.length+l.length
 |[],a,h=>⟨h,fun x=>by simp,Nat.le_refl _⟩
 |f::l,a,h=>by
  obtain⟨h1,h2,h3⟩:=fold_srt l (putL a f.name) (putL_srt h)
  refine⟨h1,fun x=> ?_,?_⟩
  ·rw[List.foldl_cons,h2,putL_mem,List.map_cons,List.mem_cons]
   constructor
   ·rintro((h|h)|h)
    ·exact .inr (.inl h)
    ·exact .inl h
    ·exact .inr (.inr h)
   ·rintro(h|h|h)
    ·exact .inl (.inr h)
    ·exact .inl (.inl h)
    ·exact .inr h
  ·have:=putL_len a f.name
   rw[List.foldl_cons,List.length_cons];omega
theorem nmF_eq(l:List Fac):nmF l=sortL (l.map Fac.name):=srt_ext (fold_srt l [] srt_nil).1 (sortL_srt _) fun x=>by
 rw[sortL_mem];exact((fold_srt l [] srt_nil).2.1 x).trans (by simp)
theorem nmF_len(l:List Fac):(nmF l).length≤l.length:=by have:=(fold_srt l [] srt_nil).2.2;simpa[nmF]using this
theorem names07_ok(l:List Fac)(hl:l.length≤8):Pure Tryz.prog 195 [.sl false 2 (l.map Fac.cells)] (strsA (sortL (l.map Fac.name))):=by
 refine Pure.runk (fun _=>0) Tryz.func195 comp195 era195 (Nat.le_of_ble_eq_true rfl) fun σ=> ?_
 repeat'(first|exact .nil|refine .k0 ?_|refine .k1 ?_|refine .k2 ?_|refine .k6 ?_|refine .r1 ?_ ?_|fail)
 all_goals(try simp only[BL]at *)
 refine WK_loop (fun n rg σ'=>∃ i:Nat,i≤l.length∧n=l.length-i∧σ'=σ∧rg=[(0,.sl false 2 (l.map Fac.cells)),(3,strsA (nmF (l.take i))),(4,iv i)]) l.length rfl ⟨_,_,Zr,Zs,0,Nat.zero_le _,rfl,rfl,rfl⟩ ?_
 rintro n _ _ ⟨i,hi,hn,rfl,rfl⟩
 have hsn:=fun(h:i<l.length)=>nmF_snoc (l:=l) h
 have hNl:(nmF (l.take i)).length≤8:=by have:=nmF_len (l.take i);rw[List.length_take]at this;omega
 have hfin:i=l.length→nmF (l.take i)=sortL (l.map Fac.name):=fun h=>by rw[h,List.take_length,nmF_eq]
 generalize nmF (l.take i)=N at *
 repeat'(first|exact .nil|refine .k0 ?_|refine .k1 ?_|refine .k2 ?_|refine .k6 ?_|refine .k7 ?_|refine .k8 ?_|refine .k9 ?_|(refine .cd ?_ ?_<;>(intro hc;skip))|refine .r1 ?_ ?_|(refine .m2 ?_ ?_;intro hlen)|fail)
 all_goals(try simp only[BL]at *)
 rotate_left
 ·rw[hfin (by omega)];exact Zw
 have hil:i<l.length:=by omega
 have hsn:=hsn hil
 clear hfin
 generalize hs:(l.getD i default).name=s at *
 rename Store=>σ
 refine WK_loop (fun m rg σ'=>∃ k:Nat,k≤N.length∧m=N.length-k∧(∀ j,j<k→sLt (N.getD j default) s=true)∧σ'=σ∧rg=[(0,.sl false 2 (l.map Fac.cells)),(3,strsA N),(4,iv i),(5,iv k)]) N.length rfl ⟨_,_,Zr,Zs,0,Nat.zero_le _,rfl,fun j hj=>absurd hj (by omega),rfl,rfl⟩ ?_
 rintro m _ _ ⟨k,hk,hm,hp,rfl,rfl⟩
 repeat'((fail_if_success (show VX _ _ (⟨some 51,_,_⟩::_) _ _ _ _));(first|exact .nil|refine .k0 ?_|refine .k1 ?_|refine .k2 ?_|refine .k3 ?_|refine .k4 ?_|refine .k5 ?_|refine .k6 ?_|refine .k8 ?_|refine .k9 ?_|(refine .cd ?_ ?_<;>(intro hc;skip))|refine .r1 ?_ ?_|refine .t1 ?_ ?_ ?_|refine .t2 ?_ ?_ ?_|refine .r2 ?_ ?_|fail))
 try any_goals((intro hob;first|(simp_all;done)|fail))
 all_goals(try simp only[BL]at *)
 all_goals try rw[hs]at hc
 ·exact⟨N.length-(k+1),by omega,_,_,Zr,Zs,k+1,by omega,rfl,cons_lt hp hc.2,rfl,by rw[up1 (n:=N.length) (by omega) (by unfold maxLen;omega)]⟩
 all_goals have hpa:=putAt_eq hk hp (fun hk h=>by rename_i h1;first|(rcases h1 with h1|h1;exact h1 (by omega);unfold sLt at h;rw[← hs]at h;rw[h1]at h;cases h)|fail)
 ·have e:=putL_at N s
  rw[hpa,if_pos ⟨by omega,hc.2⟩]at e
  exact⟨l.length-(i+1),by omega,_,_,Zr,Zs,i+1,by omega,rfl,rfl,by rw[hsn,e,up1 (n:=l.length) (by omega) (by assumption)]⟩
 ·have e:=putL_at N s
  rw[hpa,if_neg (by rintro⟨h1,h2⟩;rcases hc with h|h;exact h (by omega);exact h h2)]at e
  by_cases h0:k=0
  ·subst h0
   refine VX_appz rfl rfl OB.nil (by rfl) ?_
   repeat'(first|exact .nil|refine .k0 ?_|refine .k1 ?_|refine .k2 ?_|refine .r1 ?_ ?_|refine .t1 ?_ ?_ ?_|refine .t3 ?_ ?_ ?_|refine .u1 ?_ ?_ ?_ (fun b u c=> ?_)|refine .u2 ?_ ?_ ?_ (fun b u c=> ?_)|fail)
   try any_goals((intro hob;first|(simp_all;done)|fail))
   all_goals(try simp only[BL]at *)
   all_goals try(show(_:Nat)≤_;simp only[List.length_append,List.length_map,List.length_take,List.length_drop,List.length_cons,List.length_nil];omega)
   ·exact strs_one _
   ·have e2:[[AV.v (.string s)]]++(N.drop 0).map strRow=(putL N s).map strRow:=by rw[e];simp[strRow]
    rw[hs,e2,up1 (n:=l.length) (by omega) (by assumption)]
    exact⟨l.length-(i+1),by omega,[(0,.sl false 2 (l.map Fac.cells)),(3,strsA (putL N s)),(4,iv ((i+1:Nat):Int))],_,Zr,Zs,i+1,by omega,rfl,rfl,by rw[hsn]⟩
  ·repeat'(first|exact .nil|refine .k0 ?_|refine .k1 ?_|refine .k2 ?_|refine .r1 ?_ ?_|refine .t1 ?_ ?_ ?_|refine .t3 ?_ ?_ ?_|refine .u1 ?_ ?_ ?_ (fun b u c=> ?_)|refine .u2 ?_ ?_ ?_ (fun b u c=> ?_)|(show List.all _ _=true;rfl)|fail)
   try any_goals((intro hob;first|(simp_all;done)|fail))
   all_goals(try simp only[BL]at *)
   all_goals try(show(_:Nat)≤_;simp only[List.length_append,List.length_map,List.length_take,List.length_drop,List.length_cons,List.length_nil];omega)
   ·exact strs_one _
   ·have e2:(N.take k).map strRow++[[AV.v (.string s)]]++(N.drop k).map strRow=(putL N s).map strRow:=by rw[e];simp[strRow]
    rw[hs,e2,up1 (n:=l.length) (by omega) (by assumption)]
    exact⟨l.length-(i+1),by omega,[(0,.sl false 2 (l.map Fac.cells)),(3,strsA (putL N s)),(4,iv ((i+1:Nat):Int))],_,Zr,Zs,i+1,by omega,rfl,rfl,by rw[hsn]⟩
theorem expU_snoc{l:List Fac}{s:Str}{i:Nat}(h:i<l.length):expU (l.take (i+1)) s=expU (l.take i) s+if(l.getD i default).name=s then(l.getD i default).exp else 0:=by
 unfold expU
 rw[List.take_succ_eq_append_getElem h,← getD_eq h,List.filter_append,List.map_append,List.sum_append]
 generalize l.getD i default=f
 by_cases h2:f.name=s
 ·simp[h2]
 ·simp[h2]
abbrev expA(n:Int):AV:= .tup [iv (if n>8∨n< -8 then 0 else n),.v (.bool (decide ¬(n>8∨n< -8)))]
theorem exponent_ok(l:List Fac)(s:Str)(hb:∀ f∈l, -8≤f.exp∧f.exp≤8)(hl:l.length≤8):Pure Tryz.prog 196 [.sl false 2 (l.map Fac.cells),sv s] (expA (expU l s)):=by
 have h0:=ofR_ok (n:=0) (by omega)
 have hD: -1000≤expU l s∧expU l s≤1000:=by
  have h1:=expU_bd s l hb
  omega
 refine Pure.runk (fun _=>0) Tryz.func196 comp196 era196 (Nat.le_of_ble_eq_true rfl) fun σ=> ?_
 repeat'(first|exact .nil|refine .k0 ?_|refine .k1 ?_|refine .k2 ?_|refine .k6 ?_|refine .r1 ?_ ?_|(refine .l1 ?_;intro b)|refine .an rfl (by intro hob;first|exact h0|fail) ?_ ?_|fail)
 all_goals(try simp only[BL]at *)
 refine WK_loop (fun m rg σ'=>∃ i:Nat,i≤l.length∧m=l.length-i∧σ'=(6,b,.cells [iv (hiW (expU (l.take i) s)),.v (.int .u64 (loW (expU (l.take i) s)))])::σ∧rg=[(0,.sl false 2 (l.map Fac.cells)),(1,sv s),(6,.lp 6 b 0),(7,iv i)]) l.length rfl ⟨_,_,Zr,Zs,0,Nat.zero_le _,rfl,rfl,rfl⟩ ?_
 rintro m _ _ ⟨i,hi,hm,rfl,rfl⟩
 have hE8:i<l.length→-1000≤(l.getD i default).exp∧(l.getD i default).exp≤1000:=fun h=>by
  have:=hb _ (getD_mem h);omega
 have hE9:i<l.length→-1000≤expU (l.take i) s∧expU (l.take i) s≤1000:=fun _=>by
  have h1:=expU_bd s (l.take i) fun f hf=>hb f (List.mem_of_mem_take hf)
  rw[List.length_take]at h1
  omega
 have hE7:i<l.length→-1000≤expU (l.take i) s+(l.getD i default).exp∧expU (l.take i) s+(l.getD i default).exp≤1000:=fun h=>by
  have h1:=expU_bd s (l.take i) fun f hf=>hb f (List.mem_of_mem_take hf)
  have:=hb _ (getD_mem h)
  rw[List.length_take]at h1
  omega
 have hsn:=fun h:i<l.length=>expU_snoc (s:=s) h
 have hfin:i=l.length→expU (l.take i) s=expU l s:=fun h=>by rw[h,List.take_length]
 repeat'(first|exact .nil|refine .k0 ?_|refine .k1 ?_|refine .k2 ?_|refine .k3 ?_|refine .k6 ?_|refine .k8 ?_|refine .k9 ?_|(refine .cd ?_ ?_<;>(intro hc;skip))|refine .r1 ?_ ?_|(refine .m2 ?_ ?_;intro hlen)|refine .t1 ?_ ?_ ?_|refine .an rfl (by intro hob;first|exact ofR_ok (hE8 (by(simp only[BL]at *;omega)))|exact addR_ok (hE9 (by(simp only[BL]at *;omega))) (hE8 (by(simp only[BL]at *;omega))) (hE7 (by(simp only[BL]at *;omega)))|fail) ?_ ?_|fail)
 try any_goals((intro hob;first|(simp_all;done)|fail))
 all_goals(try simp only[BL]at *)
 ·rw[show expU (l.take i) s+(l.getD i default).exp=expU (l.take (i+1)) s by rw[hsn (by omega),if_pos hc]]
  exact⟨l.length-(i+1),by omega,_,_,Zr,Zs,i+1,by omega,rfl,rfl,by rw[up1 (n:=l.length) (by omega) (by assumption)]⟩
 ·rw[show expU (l.take i) s=expU (l.take (i+1)) s by rw[hsn (by omega),if_neg hc,Int.add_zero]]
  exact⟨l.length-(i+1),by omega,_,_,Zr,Zs,i+1,by omega,rfl,rfl,by rw[up1 (n:=l.length) (by omega) (by assumption)]⟩
 ·rw[hfin (by omega)]
  refine .an rfl (fun _=>divideR_ok hD) .nil ?_
  clear hsn hfin hE7 hE8 hE9
  obtain⟨v,hv⟩:∃ v,expU l s=v:=⟨_,rfl⟩
  rw[hv]
  rw[hv]at hD
  repeat'(first|exact .nil|refine .k0 ?_|refine .k1 ?_|refine .k2 ?_|refine .k7 ?_|refine .k9 ?_|(refine .cd ?_ ?_<;>(intro hc;skip))|refine .r1 ?_ ?_|refine .an rfl (by intro hob;exact far_ok _) ?_ ?_|fail)
  all_goals(try simp only[BL]at *)
  ·rw[show expA v= .tup [iv 0,.v (.bool false)] by unfold expA;rw[if_pos (by omega),decide_eq_false (by omega)]]
   exact Zw
  ·rw[show expA v= .tup [iv v,.v (.bool true)] by unfold expA;rw[if_neg (by omega),decide_eq_true (by omega)]]
   exact Zw
theorem normalR_ok(l:List Fac)(hw:∀ f∈l,Word f.name)(hb:∀ f∈l, -8≤f.exp∧f.exp≤8)(hl:l.length≤8):Pure Tryz.prog 186 [.sl false 2 (l.map Fac.cells)] (unA (normU l)):=by
 refine Pure.runk (fun _=>0) Tryz.func186 comp186 era186 (Nat.le_of_ble_eq_true rfl) fun σ=> ?_
 repeat'(first|exact .nil|refine .k0 ?_|refine .k1 ?_|refine .k2 ?_|refine .k6 ?_|refine .r1 ?_ ?_|fail)
 all_goals(try simp only[BL]at *)
 refine WK_loop (fun m rg σ'=>∃ i:Nat,i≤l.length∧m=l.length-i∧σ'=σ∧rg=[(0,.sl false 2 (l.map Fac.cells)),(4,iv i)]) l.length rfl ⟨_,_,Zr,Zs,0,Nat.zero_le _,rfl,rfl,rfl⟩ ?_
 rintro m _ _ ⟨i,hi,hm,rfl,rfl⟩
 repeat'(first|exact .nil|refine .k0 ?_|refine .k1 ?_|refine .k2 ?_|refine .k6 ?_|refine .k7 ?_|refine .k8 ?_|refine .k9 ?_|(refine .cd ?_ ?_<;>(intro hc;skip))|refine .r1 ?_ ?_|(refine .m2 ?_ ?_;intro hlen)|refine .t1 ?_ ?_ ?_|refine .an rfl (by intro hob;first|exact wordR_ok _|exact names07_ok l hl|fail) ?_ ?_|fail)
 try any_goals((intro hob;first|(simp_all;done)|fail))
 all_goals(try simp only[BL]at *)
 ·exact absurd (hw _ (getD_mem (by omega))) hc
 ·exact⟨l.length-(i+1),by omega,_,_,Zr,Zs,i+1,by omega,rfl,rfl,by rw[up1 (n:=l.length) (by omega) (by assumption)]⟩
 have hN0:normU l=if∃ n∈sortL (l.map Fac.name),expU l n>8∨expU l n< -8 then([],70)else if(facU l (sortL (l.map Fac.name))).length>4 then([],2)else(facU l (sortL (l.map Fac.name)),0):=rfl
 have hNl:(sortL (l.map Fac.name)).length≤8:=by rw[← nmF_eq];have:=nmF_len l;omega
 generalize sortL (l.map Fac.name)=N at *
 rename Store=>σ
 refine WK_loop (fun m rg σ'=>∃ (i:Nat) (x:AV) (τ:Store),i≤N.length∧m=N.length-i∧(∀ n∈N.take i,¬(expU l n>8∨expU l n< -8))∧Gr2 54 ((facU l (N.take i)).map Fac.cells) x τ∧σ'=τ++σ∧rg=[(0,.sl false 2 (l.map Fac.cells)),(6,strsA N),(7,x),(8,iv i)]) N.length rfl ⟨_,_,Zr,Zs,0,_,_,Nat.zero_le _,rfl,(fun n h=>by cases h),Gr2.z,rfl,rfl⟩ ?_
 rintro m2 _ _ ⟨i,x,τ,hi,hm,hP,hR,rfl,rfl⟩
 have hfl:(facU l (N.take i)).length≤8:=Nat.le_trans (facU_len _ _) (by rw[List.length_take];omega)
 have hsn:=fun(h:i<N.length)=>facU_snoc (l:=l) h
 have hP2:i<N.length→¬(expU l (N.getD i default)>8∨expU l (N.getD i default)< -8)→∀ n∈N.take (i+1),¬(expU l n>8∨expU l n< -8):=fun h h1 n hn=>by
  rw[List.take_succ_eq_append_getElem h,← getD_eq h,List.mem_append,List.mem_singleton]at hn
  rcases hn with hn|rfl
  ·exact hP n hn
  ·exact h1
 rcases hR with⟨hE,rfl,rfl⟩|⟨b3,u3,c3,rfl,rfl⟩
 all_goals
  repeat'(first|exact .nil|refine .k0 ?_|refine .k1 ?_|refine .k2 ?_|refine .k6 ?_|refine .k7 ?_|refine .k8 ?_|refine .k9 ?_|(refine .cd ?_ ?_<;>(intro hc;skip))|refine .r1 ?_ ?_|(refine .m2 ?_ ?_;intro hlen)|refine .t1 ?_ ?_ ?_|refine .u1 ?_ ?_ ?_ (fun b u c=> ?_)|refine .u2 ?_ ?_ ?_ (fun b u c=> ?_)|refine .an rfl (by intro hob;first|exact names07_ok l hl|exact exponent_ok l _ hb hl) ?_ ?_|refine .r8 ?_ ?_|(show List.all _ _=true;rfl)|fail)
  try any_goals((intro hob;first|(simp_all;done)|fail))
  all_goals(try simp only[BL]at *)
  ·rw[hN0,if_pos ⟨N.getD i default,getD_mem (by omega),Classical.not_not.1 hc⟩]
   refine Sx.Fin.wk Zs (.tup (.cons .nil (.cons (.refl _) .nil)))
  ·show _≤1000000;simp only[List.length_cons,List.length_nil];omega
  ·show _ * _≤_;simp only[List.length_map,List.length_cons,List.length_nil];omega
  ·have hnb:¬(expU l (N.getD i default)>8∨expU l (N.getD i default)< -8):=by assumption
   rw[if_neg hnb]at hc ⊢
   refine⟨m2-1,by omega,_,_,Zr,Zs,i+1,_,_,by omega,by omega,hP2 (by omega) hnb,Gr2.s ?_,rfl,by rw[up1 (n:=N.length) (by omega) (by unfold maxLen;omega)]⟩
   rw[hsn (by omega),if_pos hc,List.map_append]
   first|(rw[hE];rfl)|rfl
  ·have hnb:¬(expU l (N.getD i default)>8∨expU l (N.getD i default)< -8):=by assumption
   rw[if_neg hnb]at hc
   refine⟨m2-1,by omega,_,_,Zr,Zs,i+1,_,_,by omega,by omega,hP2 (by omega) hnb,?_,rfl,by rw[up1 (n:=N.length) (by omega) (by unfold maxLen;omega)]⟩
   rw[hsn (by omega),if_neg (by rw[hc];simp),List.append_nil]
   first|exact Gr2.n hE|exact Gr2.s rfl
  ·have hiN:N.take i=N:=List.take_of_length_le (by omega)
   rw[hiN]at hP
   try rw[hiN]at hE
   try rw[hiN]at hc
   try rw[hiN]
   rw[hN0,if_neg (by rintro⟨n,hn,hb2⟩;exact hP n hn hb2)]
   first
    |exact absurd hc (by decide)
    |(rw[if_pos (by omega)];refine Sx.Fin.wk Zs (.tup (.cons .nil (.cons (.refl _) .nil))))
  ·have hiN:N.take i=N:=List.take_of_length_le (by omega)
   rw[hiN]at hP
   try rw[hiN]at hE
   try rw[hiN]at hc
   try rw[hiN]
   rw[hN0,if_neg (by rintro⟨n,hn,hb2⟩;exact hP n hn hb2)]
   first
    |(rw[List.map_eq_nil_iff.1 hE,if_neg (by decide)];refine Sx.Fin.wk Zs (.tup (.cons .nil (.cons (.refl _) .nil)));done)
    |(rw[if_neg (by omega)];(refine Sx.Fin.wk Zs ?_;repeat' first|exact .refl _|refine .cons ?_ ?_|refine .tup ?_|exact .own _))
theorem inverseR_ok(q:List Fac)(hb:∀ f∈q, -8≤f.exp∧f.exp≤8)(hl:q.length≤8):Pure Tryz.prog 187 [.sl false 2 (q.map Fac.cells)] (.sl false 2 ((q.map (mulF (-1))).map Fac.cells)):=by
 refine Pure.runk (fun _=>0) Tryz.func187 comp187 era187 (Nat.le_of_ble_eq_true rfl) fun σ=> ?_
 repeat'(first|exact .nil|refine .k0 ?_|refine .k1 ?_|refine .k2 ?_|refine .k6 ?_|refine .r1 ?_ ?_|fail)
 all_goals(try simp only[BL]at *)
 refine WK_loop (fun m rg σ'=>∃ (i:Nat) (x:AV) (τ:Store),i≤q.length∧m=q.length-i∧Gr2 25 (((q.map (mulF (-1))).take i).map Fac.cells) x τ∧σ'=τ++σ∧rg=[(0,.sl false 2 (q.map Fac.cells)),(3,x),(4,iv i)]) q.length rfl ⟨_,_,Zr,Zs,0,_,_,Nat.zero_le _,rfl,Gr2.z,rfl,rfl⟩ ?_
 rintro m _ _ ⟨i,x,τ,hi,hm,hR,rfl,rfl⟩
 rcases hR with⟨hE,rfl,rfl⟩|⟨b3,u3,c3,rfl,rfl⟩
 all_goals
  repeat'(first|exact .nil|refine .k0 ?_|refine .k1 ?_|refine .k2 ?_|refine .k4 ?_|refine .k6 ?_|refine .k7 ?_|refine .k8 ?_|refine .k9 ?_|(refine .cd ?_ ?_<;>(intro hc;skip))|refine .r1 ?_ ?_|(refine .m2 ?_ ?_;intro hlen)|refine .t1 ?_ ?_ ?_|refine .u1 ?_ ?_ ?_ (fun b u c=> ?_)|refine .u2 ?_ ?_ ?_ (fun b u c=> ?_)|(show List.all _ _=true;rfl)|fail)
  try any_goals((intro hob;first|(simp_all;done)|fail))
  all_goals(try simp only[BL]at *)
  all_goals try(show(_:Nat)≤_;simp only[List.length_map,List.length_take,List.length_cons,List.length_nil];omega)
  ·have hb1:=hb _ (getD_mem (l:=q) (i:=i) (by omega))
   rw[show IntKind.i64.wrap (0-(q.getD i default).exp)= -1 * (q.getD i default).exp by rw[i64w (by omega)];omega]
   refine⟨m-1,by omega,_,_,Zr,Zs,i+1,_,_,by omega,by omega,Gr2.s ?_,rfl,by rw[up1 (n:=q.length) (by omega) (by assumption)]⟩
   have hil:i<q.length:=by omega
   rw[show(q.map (mulF (-1))).take (i+1)=(q.map (mulF (-1))).take i++[mulF (-1) (q.getD i default)] by rw[List.take_succ_eq_append_getElem (by rw[List.length_map];exact hil),List.getElem_map,← getD_eq hil],List.map_append]
   first|(rw[hE];rfl)|rfl
  ·have hi8:(q.map (mulF (-1))).take i=q.map (mulF (-1)):=List.take_of_length_le (by rw[List.length_map];omega)
   first
    |(rw[show(q.map (mulF (-1))).map Fac.cells=[] by rw[← hi8];exact hE];(refine Sx.Fin.wk Zs ?_;repeat' first|exact .nil|fail);done)
    |(rw[hi8];(refine Sx.Fin.wk Zs ?_;repeat' exact .own _);done)
theorem wk_nil2{a:List Fac}(h:a=[]):Wk nilA (.sl false 2 (a.map Fac.cells)):=by rw[h];exact .nil
theorem timesR_ok:RTimesC:=by
 intro a d
 refine Pure.runk (fun _=>0) Tryz.func173 comp173 era173 (Nat.le_of_ble_eq_true rfl) fun σ=> ?_
 repeat'((fail_if_success (show WK _ _ _ _ (.reg s173_8) _ _ _));(first|exact .nil|refine .k0 ?_|refine .k1 ?_|refine .k2 ?_|refine .k7 ?_|refine .k9 ?_|(refine .cd ?_ ?_<;>(intro hc;skip))|refine .r1 ?_ ?_|refine .an rfl (by intro hob;exact unitCheckR_ok _) ?_ ?_|fail))
 all_goals(try simp only[BL]at *)
 ·rw[show prodU a d 1=([],unitErr a)from if_pos hc]
  refine Sx.Fin.wk Zs (.tup (.cons .nil (.cons (.refl _) .nil)))
 ·have ha:unitErr a=0:=by assumption
  rw[show prodU a d 1=([],unitErr d)from by unfold prodU;rw[if_neg (by rw[ha];simp),if_pos hc]]
  refine Sx.Fin.wk Zs (.tup (.cons .nil (.cons (.refl _) .nil)))
 have ha:unitErr a=0:=by assumption
 have hb:unitErr d=0:=by assumption
 have hP:prodU a d 1=normU (a++d):=by
  unfold prodU;rw[if_neg (by rw[ha];simp),if_neg (by rw[hb];simp)]
  congr 2
  refine(List.map_congr_left fun f _=> ?_).trans (List.map_id d)
  show(⟨f.name,1 * f.exp⟩:Fac)=f
  rw[Int.one_mul]
 obtain⟨ha1,ha2⟩:=unitErr_0 ha
 obtain⟨hb1,hb2⟩:=unitErr_0 hb
 have hN:=normalR_ok (a++d) (fun f hf=>by rcases List.mem_append.1 hf with hf|hf;exact(ha2 f hf).1;exact(hb2 f hf).1) (fun f hf=>by rcases List.mem_append.1 hf with hf|hf;exact(ha2 f hf).2;exact(hb2 f hf).2) (by rw[List.length_append];omega)
 rw[hP]
 clear hP hc ha hb
 repeat'((fail_if_success (show VX _ _ (⟨some 20,_,_⟩::_) _ _ _ _));(first|exact .nil|refine .k2 ?_|refine .r1 ?_ ?_|fail))
 by_cases h1:a=[]
 ·refine VX_appz rfl rfl OB.nil (by rw[h1];rfl) ?_
  repeat'((fail_if_success (show VX _ _ (⟨some 22,_,_⟩::_) _ _ _ _));(first|exact .nil|refine .r1 ?_ ?_|fail))
  by_cases h2:d=[]
  ·refine VX_appz rfl rfl OB.nil (by rw[h2];rfl) ?_
   repeat'(first|exact .nil|refine .k0 ?_|refine .k1 ?_|refine .k2 ?_|refine .r1 ?_ ?_|fail)
   refine .an rfl (fun _=>hN.wk (.cons (wk_nil2 (by rw[h1,h2];rfl)) .nil)) .nil ?_
   repeat'(first|exact .nil|refine .k0 ?_|refine .k1 ?_|refine .k7 ?_|refine .r1 ?_ ?_|fail)
   exact Zw
  ·repeat'(first|exact .nil|refine .k0 ?_|refine .k1 ?_|refine .k2 ?_|refine .r1 ?_ ?_|refine .u1 ?_ ?_ ?_ (fun b u c=> ?_)|fail)
   try any_goals((intro hob;first|(simp_all;done)|fail))
   all_goals(try simp only[BL]at *)
   all_goals try(show(_:Nat)≤_;simp only[List.length_map];omega)
   rw[h1,List.nil_append]at hN ⊢
   refine .an rfl (fun _=>hN.wk (.cons (.own _) .nil)) .nil ?_
   repeat'(first|exact .nil|refine .k0 ?_|refine .k1 ?_|refine .k7 ?_|refine .r1 ?_ ?_|fail)
   exact Zw
 ·repeat'(first|exact .nil|refine .k0 ?_|refine .k1 ?_|refine .k2 ?_|refine .r1 ?_ ?_|refine .u1 ?_ ?_ ?_ (fun b u c=> ?_)|refine .u2 ?_ ?_ ?_ (fun b u c=> ?_)|fail)
  try any_goals((intro hob;first|(simp_all;done)|fail))
  all_goals(try simp only[BL]at *)
  all_goals try(show(_:Nat)≤_;simp only[List.length_map];omega)
  ·rw[List.all_map,List.all_eq_true];intro y _;rfl
  rw[← List.map_append]
  refine .an rfl (fun _=>hN.wk (.cons (.own _) .nil)) .nil ?_
  repeat'(first|exact .nil|refine .k0 ?_|refine .k1 ?_|refine .k7 ?_|refine .r1 ?_ ?_|fail)
  exact Zw
theorem inv_err(q:List Fac):unitErr (q.map (mulF (-1)))=unitErr q:=by
 have key:∀ (l:List Fac) (p:Option Str),unitErrL p (l.map (mulF (-1)))=unitErrL p l:=by
  intro l
  induction l with
  |nil=>intro p;rfl
  |cons f l ih=>
   intro p
   have e:facErr p (mulF (-1) f)=facErr p f:=by
    unfold facErr
    show(if¬Word f.name then 1 else if -1 * f.exp=0∨-1 * f.exp>8∨-1 * f.exp< -8 then 70 else _)=_
    have e2:(-1 * f.exp=0∨-1 * f.exp>8∨-1 * f.exp< -8)↔(f.exp=0∨f.exp>8∨f.exp< -8):=by omega
    simp only[e2];rfl
   rw[List.map_cons,unitErrL,unitErrL,e,ih];rfl
 unfold unitErr
 rw[List.length_map,key]
theorem overR_ok:ROverC:=by
 intro a d
 have hb:=fun h:unitErr d=0=>fun f hf=>((unitErr_0 h).2 f hf).2
 have hl:=fun h:unitErr d=0=>Nat.le_trans (unitErr_0 h).1 (by decide:4≤8)
 refine Pure.runk (fun _=>0) Tryz.func174 comp174 era174 (Nat.le_of_ble_eq_true rfl) fun σ=> ?_
 repeat'(first|exact .nil|refine .k0 ?_|refine .k1 ?_|refine .k2 ?_|refine .k7 ?_|refine .k9 ?_|(refine .cd ?_ ?_<;>(intro hc;skip))|refine .r1 ?_ ?_|refine .an rfl (by intro hob;first|exact unitCheckR_ok _|exact inverseR_ok _ (hb (by(simp only[BL]at *;omega))) (hl (by(simp only[BL]at *;omega)))|exact timesR_ok _ _) ?_ ?_|fail)
 all_goals(try simp only[BL]at *)
 ·rw[show prodU a d (-1)=([],unitErr a)from if_pos hc]
  refine Sx.Fin.wk Zs (.tup (.cons .nil (.cons (.refl _) .nil)))
 ·have ha:unitErr a=0:=by assumption
  rw[show prodU a d (-1)=([],unitErr d)from by unfold prodU;rw[if_neg (by rw[ha];simp),if_pos hc]]
  refine Sx.Fin.wk Zs (.tup (.cons .nil (.cons (.refl _) .nil)))
 ·have ha:unitErr a=0:=by assumption
  rw[show prodU a d (-1)=prodU a (d.map (mulF (-1))) 1 from by
   unfold prodU
   rw[inv_err]
   simp only[ha,hc,ne_eq,not_true_eq_false,if_false,List.map_map]
   congr 2
   refine List.map_congr_left fun f _=> ?_
   show(⟨f.name, -1 * f.exp⟩:Fac)=⟨f.name,1 * (-1 * f.exp)⟩
   rw[Int.one_mul]]
  exact Zw
set_option maxHeartbeats 16000000
theorem catalogChecks_ok(c:Cat)(hc0:c.Fits):Pure Tryz.prog 3 [.agg c.cells] (.v (.bool true)):=by
 by_cases hs:Small c
 rotate_left
 ·have hS:=small_f hs
  refine Pure.runk (fun _=>0) Tryz.func3 comp3 era3 (Nat.le_of_ble_eq_true rfl) fun σ=> ?_
  repeat'(first|exact .nil|refine .k0 ?_|refine .k1 ?_|refine .k2 ?_|refine .k4 ?_|refine .k5 ?_|refine .k7 ?_|refine .r1 ?_ ?_|(refine .m1 ?_ ?_;intro b)|refine .an rfl (by intro hob;first|exact hS|exact example_ok|exact(Bool.noConfusion (show false=true from hob):Sx.Pure Tryz.prog _ _ (iv 0))) ?_ ?_|fail)
  all_goals(try simp only[BL]at *)
  all_goals first|(show Sx.Fin _ _ _ _;refine Sx.Fin.wk Zs (Wk.ofeq (by simp));done)|fail
 have hS:=small_t hs
 have hA:=checkC_ok times_ok over_ok c hs hc0
 have hB:=checkR_ok timesR_ok overR_ok c hs hc0
 generalize catErr c=E at *
 refine Pure.runk (fun _=>0) Tryz.func3 comp3 era3 (Nat.le_of_ble_eq_true rfl) fun σ=> ?_
 repeat'(first|exact .nil|refine .k0 ?_|refine .k1 ?_|refine .k2 ?_|refine .k4 ?_|refine .k5 ?_|refine .k7 ?_|refine .r1 ?_ ?_|(refine .m1 ?_ ?_;intro b)|refine .an rfl (by intro hob;first|exact hS|exact hA|exact hB|exact example_ok|fail) ?_ ?_|fail)
 all_goals(try simp only[BL]at *)
 all_goals first|(show Sx.Fin _ _ _ _;refine Sx.Fin.wk Zs (Wk.ofeq (by simp));done)|fail
end Go.Proofs.YtekngilbecjkhaaGreatDoor
