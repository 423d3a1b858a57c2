/-
  The layer Sx, seventh part: append, calls, and all operations together.
-/
import Derived.Test.YtbihckigennlhaaGreatDoorSxComp4
set_option linter.unusedVariables false
set_option linter.unusedSimpArgs false
set_option linter.unusedSectionVars false
namespace Go.Sx
open Go.RowKit
section
variable {P:Program}[Glob P]{M:Mem}{w0:Base}{w:World}{σ:Store}{K:AV→Store→Prop}{rg:Regs}{a:Act}{cfg:Nat→Nat}{d:Option Nat}{E:List PanicEntry→Store→Prop}
theorem rowsV_cells{esz:Nat}{x:AV}{v:Value}{rows:List (List AV)}(hI:Inv P M w0 σ w)(hx:R M x v)(h:rowsV esz x=some rows)(hns:¬∃ s,x= .v (.string s)):
  ∃ (base:Option Addr) (cap:Nat) (L:List Value),v= .slice base rows.length cap∧RL M rows.flatten L∧(∀ i (h:i<rows.length),rows[i].length=esz)∧
   (Builtin.firstCells esz rows.length v).run P w= .ok L.toArray w:=by
 have go:∀ b off cap (cs:Nat→Value),Rows M b off esz rows cs→∃ L:List Value,RL M rows.flatten L∧(Builtin.firstCells esz rows.length (.slice (some ⟨b,off,none⟩) rows.length cap)).run P w= .ok L.toArray w:=by
  intro b off cap cs hr
  refine⟨_,hr.flat,?_⟩
  simp only[Builtin.firstCells]
  refine run_loads b off _ _ (by simp) (fun i hi=> ?_)
  simp only[List.length_map,List.length_range]at hi
  have:=hI.imm _ _ _ (hr.mem i hi)
  simpa using this
 unfold rowsV at h
 split at h
 ·rename_i nn e rows'
  split at h
  ·rename_i e';subst e'
   simp only[Option.some.injEq]at h
   subst h
   rcases hx.of_sl with⟨ba,_,rfl,hv⟩|⟨b,off,cap,cs,hv,hr,h1,h2⟩
   ·subst hv
    exact⟨ba,0,[],rfl,RL.nil,fun i hi=>absurd hi (by simp),by cases ba<;>simp[Builtin.firstCells,loadCells,loadCellsFrom]⟩
   ·obtain⟨L,hL,hrun⟩:=go b off cap cs hr
    exact⟨_,cap,L,hv,hL,hr.size,by rw[hv];exact hrun⟩
  ·cases h
 ·rename_i e tg b u c rows'
  split at h
  ·rename_i e';subst e'
   simp only[Option.some.injEq]at h
   subst h
   obtain⟨off,cap,cs,hv,hr,_⟩:=hx.of_own
   obtain⟨L,hL,hrun⟩:=go b off cap cs hr
   exact⟨_,cap,L,hv,hL,hr.size,by rw[hv];exact hrun⟩
  ·cases h
 ·simp only[Option.some.injEq]at h
  subst h
  rw[hx.of_v]
  exact⟨none,0,[],rfl,RL.nil,fun i hi=>absurd hi (by simp),by simp[Builtin.firstCells]⟩
 ·exact absurd ⟨_,rfl⟩ hns
 ·cases h
theorem rowsV_src{esz:Nat}{x:AV}{v:Value}{rows:List (List AV)}(hI:Inv P M w0 σ w)(hx:R M x v)(h:rowsV esz x=some rows):
  ∃ L:List Value,(∀ w':World,(Builtin.lenOf v).run P w'= .ok rows.length w')∧RL M rows.flatten L∧(∀ i (h:i<rows.length),rows[i].length=esz)∧
   (Builtin.firstCells esz rows.length v).run P w= .ok L.toArray w:=by
 by_cases hs:∃ s,x= .v (.string s)
 ·obtain⟨s,rfl⟩:=hs
  simp only[rowsV]at h
  split at h
  case isFalse=>cases h
  rename_i e1
  subst e1
  cases h
  rw[hx.of_v]
  refine⟨s.data.toList.map fun b=> .int .u8 b.toNat,fun w'=>by simp only[Builtin.lenOf,Sem.run_pure,List.length_map,Array.length_toList];rfl,?_,fun i hi=>by simp[byteRow],?_⟩
  ·have:∀ l:List UInt8,RL M (l.map byteRow).flatten (l.map fun b=>Value.int .u8 b.toNat):=by
    intro l
    induction l with
    |nil=>exact RL.nil
    |cons b l ih=>exact RL.cons (.v _) ih
   exact this _
  ·simp only[Builtin.firstCells,List.length_map,Sem.run_pure]
   congr 1
   apply Array.ext'
   have:s.extract 0 s.data.toList.length=s:=by
    have e:s.data.toList.length=s.size:=rfl
    rw[e,ByteArray.extract_zero_size]
   rw[this]
   simp
 ·obtain⟨base,cap,L,hv,h1,h2,h3⟩:=rowsV_cells (P:=P) (rows:=rows) hI hx h hs
  exact⟨L,fun w'=>by rw[hv];rfl,h1,h2,h3⟩
def Mem.ext(M:Mem)(B u:Nat)(vs:List Value):Mem:=fun b o=>if b=B∧u≤o∧o<u+vs.length then vs[o-u]? else M b o
theorem Inv.ext_le{tg b u c:Nat}(hI:Inv P M w0 σ w)(hb:lkt σ tg=some (b,.tail u c))(vs:List Value):M.le (M.ext b u vs):=fun b' o v h=>by
 obtain⟨_,hM,_⟩:=hI.st _ (lkt_mem hb)
 have:¬(b'=b∧u≤o∧o<u+vs.length):=fun⟨e,h1,_⟩=>by subst e;rw[hM o h1]at h;cases h
 simp[Mem.ext,this,h]
theorem Inv.tailWrite{tg b u c:Nat}(hI:Inv P M w0 σ w)(hb:lkt σ tg=some (b,.tail u c))(vs:List Value)(hc:u+vs.length≤c)(h1:vs.all Value.oneCell'=true):
  ∃ w',(storeCells ⟨b,u,none⟩ vs).run P w= .ok () w'∧Inv P (M.ext b u vs) w0 (upt σ tg b (.tail (u+vs.length) c)) w':=by
 obtain⟨hold,hM,cs,t,hh,hsz,_⟩:=hI.st _ (lkt_mem hb)
 simp only at hold hM hh hsz
 obtain⟨w',hr,hw',hk,e1,e2,e3,e4⟩:=run_stores (P:=P) b u t vs cs 0 w hh (by omega) h1
 have hle:=hI.ext_le hb vs
 obtain⟨pre,post,hs1,hs2⟩:=upt_split hb
 have hnd:=hI.nd
 rw[hs1]at hnd
 simp only[List.map_append,List.map_cons]at hnd
 refine⟨w',hr,e1.trans hI.os,e2.trans hI.tape,e3.trans hI.output,by rw[e4];exact hI.size,fun k hk'=> ?_,fun b' o v hv=> ?_,fun e he=> ?_,?_,fun g l e=>(hI.gl g l e).mono (hI.ext_le hb vs),hI.gw,fun b' o v hv hlt=>hI.bm b' o v (by simp only[Mem.ext]at hv;rwa [if_neg (fun e=>by have:=(hI.st _ (lkt_mem hb)).1;simp only at this;omega)]at hv) hlt⟩
 ·rw[hk k (by omega)];exact hI.old k hk'
 ·simp only[Mem.ext]at hv
  split at hv
  ·rename_i hc'
   obtain⟨rfl,h2,h3⟩:=hc'
   simp only[World.cell?,hw',Option.isSome_none,Bool.false_eq_true,if_false,over,Nat.add_zero]
   simp only[List.getElem?_toArray,List.append_assoc]
   rw[List.getElem?_append_right (by simp;omega)]
   rw[List.getElem?_append_left (by simp;omega)]
   rw[← hv]
   congr 1
   simp;omega
  ·by_cases e:b'=b
   ·subst e
    rename_i hc'
    have hu:o<u:=by
     rcases Nat.lt_or_ge o u with h|h
     ·exact h
     ·rw[hM o h]at hv;cases hv
    have:=hI.imm b' o v hv
    simp only[World.cell?,hh,Option.isSome_none,Bool.false_eq_true,if_false]at this
    simp only[World.cell?,hw',Option.isSome_none,Bool.false_eq_true,if_false,over,Nat.add_zero]
    simp only[List.getElem?_toArray,List.append_assoc]
    rw[List.getElem?_append_left (by simp;omega),List.getElem?_take,if_pos hu]
    simpa using this
   ·have:=hI.imm b' o v hv
    rw[← this]
    simp only[World.cell?,hk b' e]
 ·rw[hs2]at he
  have hmem:e=(tg,b,.tail (u+vs.length) c)∨(e∈σ∧e.2.1≠b):=by
   rw[List.nodup_append]at hnd
   rcases List.mem_append.1 he with he|he
   ·refine .inr ⟨by rw[hs1];exact List.mem_append_left _ he,fun eb=> ?_⟩
    exact hnd.2.2 e.2.1 (List.mem_map_of_mem he) b List.mem_cons_self eb
   ·rcases List.mem_cons.1 he with rfl|he
    ·exact .inl rfl
    ·refine .inr ⟨by rw[hs1];exact List.mem_append_right _ (List.mem_cons_of_mem _ he),fun eb=> ?_⟩
     have:=(List.nodup_cons.1 hnd.2.1).1
     exact this (by rw[← eb];exact List.mem_map_of_mem (f:=fun e:Nat×Nat×Blk=>e.2.1) he)
  rcases hmem with rfl|⟨he,hne⟩
  ·refine⟨hold,fun o ho=> ?_,_,t,hw',?_,hc⟩
   ·simp[Mem.ext]
    rw[if_neg (by omega)]
    exact hM o (by omega)
   ·simp[over];omega
  ·refine⟨(hI.st e he).1,?_⟩
   have hkk:=(hI.st e he).2
   obtain⟨tg',b',x⟩:=e
   simp only at hne hkk ⊢
   cases x with
   |cells l=>obtain⟨a1,cs',t',a2,a3⟩:=hkk;exact⟨fun o=>by simp[Mem.ext,hne,a1 o],cs',t',(hk b' hne).trans a2,a3.mono hle⟩
   |tail u' c'=>obtain⟨a1,cs',t',a2,a3⟩:=hkk;exact⟨fun o ho=>by simp[Mem.ext,hne,a1 o ho],cs',t',(hk b' hne).trans a2,a3⟩
   |map es k=>obtain⟨a1,l,a2,a3,a4⟩:=hkk;exact⟨fun o=>by simp[Mem.ext,hne,a1 o],l,(hk b' hne).trans a2,a3,a4.mono hle⟩
 ·rw[hs2]
  simp only[List.map_append,List.map_cons]
  exact hnd
theorem Inv.moveTail{tg b:Nat}{x:Blk}(hI:Inv P M w0 σ w)(hb:lkt σ tg=some (b,x))(u:Nat)(cs:List Value)(t:TypeId)(hu:u≤cs.length):
  Inv P (M.add w.heap.size u cs) w0 (upt σ tg w.heap.size (.tail u cs.length)) (w.alloc (.cells cs.toArray t)):=by
 have h':=hI.addTail u cs t hu tg
 obtain⟨pre,post,hs1,hs2⟩:=upt_split hb
 refine⟨h'.os,h'.tape,h'.output,h'.size,h'.old,h'.imm,fun e he=> ?_,?_,h'.gl,h'.gw,h'.bm⟩
 ·rw[hs2]at he
  refine h'.st e ?_
  rcases List.mem_append.1 he with he|he
  ·exact List.mem_cons_of_mem _ (by rw[hs1];exact List.mem_append_left _ he)
  ·rcases List.mem_cons.1 he with rfl|he
   ·exact List.mem_cons_self
   ·exact List.mem_cons_of_mem _ (by rw[hs1];exact List.mem_append_right _ (List.mem_cons_of_mem _ he))
 ·have hnd:=hI.nd
  have hf:=hI.fresh
  rw[hs1]at hnd hf
  rw[hs2]
  simp only[List.map_append,List.map_cons]at hnd hf ⊢
  rw[List.nodup_append]at hnd ⊢
  simp only[List.mem_append,List.mem_cons,not_or]at hf
  refine⟨hnd.1,?_,fun a ha b' hb'=> ?_⟩
  ·rw[List.nodup_cons]at hnd ⊢
   exact⟨hf.2.2,hnd.2.1.2⟩
  ·rcases List.mem_cons.1 hb' with rfl|hb'
   ·intro e;subst e;exact hf.1 ha
   ·exact hnd.2.2 a ha b' (List.mem_cons_of_mem _ hb')
theorem growBy_le(n:Nat):∀ (r c:Nat),c<n→256≤c→Builtin.growBy n r c≤2 * n
 |0,c,h,_=>by simp[Builtin.growBy];omega
 |r+1,c,h,h2=>by
  simp only[Builtin.growBy]
  rw[if_neg (by omega)]
  by_cases h3:c+(c+768) / 4<n
  ·exact growBy_le n r _ h3 (by omega)
  ·cases r with
   |zero=>simp[Builtin.growBy];omega
   |succ r=>simp only[Builtin.growBy];rw[if_pos (by omega)];omega
theorem nextcap_le(n c:Nat)(h:c<n):Builtin.nextslicecap n c≤2 * n:=by
 unfold Builtin.nextslicecap
 split
 ·omega
 ·split
  ·omega
  ·exact growBy_le n 4 c h (by omega)
theorem wrap_map{rows rows':List (List AV)}{esz:Nat}(h:∀ i (h:i<rows.length),rows[i].length=esz)(h':∀ i (h:i<rows'.length),rows'[i].length=esz):
  ∀ i (h:i<(rows++rows').length),(rows++rows')[i].length=esz:=by
 intro i hi
 rw[List.getElem_append]
 split
 ·exact h _ _
 ·exact h' _ _
theorem Rows.join{b off esz:Nat}{rows rows':List (List AV)}{L L':List Value}{M':Mem}(h:∀ i (h:i<rows.length),rows[i].length=esz)(h':∀ i (h:i<rows'.length),rows'[i].length=esz)
  (hL:RL M' rows.flatten L) (hL':RL M' rows'.flatten L') (hM:∀ k v,(L++L')[k]? =some v→M' b (off+k)=some v):∃ cs,Rows M' b off esz (rows++rows') cs:=
 ⟨_,Rows.of_flat (wrap_map h h') (by rw[List.flatten_append];exact RL.append hL hL') hM⟩
theorem run_append_new{t e u ty:TypeId}{i:TypeInfo}{z:Value}{s x:Value}{base:Option Addr}{n c n':Nat}{L L':List Value}(ht:P.underlying t=some (.slice e))(hu:(∃ e',P.underlying u=some (.slice e'))∨P.underlying u=some .string)(hi:P.info? e=some i)(hz:i.zero=some z)(hb:0<i.bytes)
  (hs:s= .slice base n c) (hx:∀ w':World,(Builtin.lenOf x).run P w'= .ok n' w') (hlt:c<n+n') (hbig:(n+n') * i.bytes≤35184372088832)
  (h1:(Builtin.firstCells i.size n s).run P w.drew= .ok L.toArray w.drew) (h2:(Builtin.firstCells i.size n' x).run P w.drew= .ok L'.toArray w.drew):
  ∃ (cap:Nat) (rest:List Value),n+n'≤cap∧cap≤maxLen∧rest.length=(cap-(n+n')) * z.cells.size∧
   (Builtin.append_ #[t,u] ty #[s,x]).run P w= .ok (.slice (some ⟨w.heap.size,0,none⟩) (n+n') cap) (w.drew.alloc (.cells (L++L'++rest).toArray e)):=by
 subst hs
 have hnext:=nextcap_le (n+n') c hlt
 have hn1:Builtin.nextslicecap (n+n') c * i.bytes≤281474976710656:=by
  have:=Nat.mul_le_mul_right i.bytes hnext
  rw[Nat.mul_assoc]at this
  omega
 have hmax:n+n'≤35184372088832:=Nat.le_trans (Nat.le_mul_of_pos_right _ hb) hbig
 have hcap:(Question.appendCap (n+n') c e).cut (w.tape w.drawn (.appendCap (n+n') c e))=n+n'+(w.tape w.drawn (.appendCap (n+n') c e)) % (2 ^ 63-(n+n')):=rfl
 have hmod:(w.tape w.drawn (.appendCap (n+n') c e)) % (2 ^ 63-(n+n'))<2 ^ 63-(n+n'):=Nat.mod_lt _ (by omega)
 refine⟨(Question.appendCap (n+n') c e).cut (w.tape w.drawn (.appendCap (n+n') c e)),(Builtin.zeroCells z.cells ((Question.appendCap (n+n') c e).cut (w.tape w.drawn (.appendCap (n+n') c e))-(n+n'))).toList,?_,?_,?_,?_⟩
 ·rw[hcap];omega
 ·rw[hcap];unfold maxLen;omega
 ·simp[Builtin.zeroCells]
 ·have hgo:¬n+n'≤c:=by omega
  have hbig2:¬Builtin.nextslicecap (n+n') c * i.bytes>281474976710656:=by omega
  have hb0:i.bytes≠0:=by omega
  rcases hu with⟨e',hu⟩|hu
  all_goals(simp[Builtin.append_,run_under ht,run_under hu,run_size hi,hx,hgo,run_info hi,hb0,hbig2,Question.forced,h1,h2,run_zero hi hz,newRow])
  all_goals congr 2
  all_goals apply Array.ext'
  all_goals simp
theorem Inv.drew'(hI:Inv P M w0 σ w):Inv P M w0 σ w.drew:=⟨hI.os,hI.tape,hI.output,hI.size,hI.old,hI.imm,hI.st,hI.nd,hI.gl,hI.gw,hI.bm⟩
theorem rows_all_one{rows:List (List AV)}(h:rows.all (fun r=>r.all AV.one)=true):rows.flatten.all AV.one=true:=by
 rw[List.all_eq_true]at *
 intro x hx
 obtain⟨r,hr,hxr⟩:=List.mem_flatten.1 hx
 exact List.all_eq_true.1 (h r hr) x hxr
theorem s_append{t e u ty:TypeId}{i:TypeInfo}{z:Value}{x y:Operand}(ht:P.underlying t=some (.slice e))(hu:(∃ e',P.underlying u=some (.slice e'))∨P.underlying u=some .string)(hi:P.info? e=some i)(hz:i.zero=some z)(hp:0<i.size)(hb:0<i.bytes)(hzc:z.cells.size=i.size)
  (hI:Inv P M w0 σ w) (hR:RegsOK M rg a) (h:vcO P cfg d rg σ K E (.append e i.size i.bytes z.cells.toList x y)):Gives P M w0 K ((Builtin.append_ #[t,u] ty #[a.eval x,a.eval y]).run P w):=by
 have hx:=hR.ev x
 have hy:=hR.ev y
 simp only[vcO]at h
 split at h
 ·rename_i rows' hxe hye
  rw[hxe]at hx
  obtain⟨L',hv2,hL',hsz',hrun2⟩:=rowsV_src (P:=P) hI.drew' hy hye
  obtain⟨hbig,hnil,hcons⟩:=h
  rw[hx.of_v]
  by_cases hz0:rows'=[]
  ·subst hz0
   refine Gives.same hI (.v _) (hnil rfl) ?_
   obtain⟨L2,hv2',hL2,hsz2,hrun2'⟩:=rowsV_src (P:=P) hI hy hye
   have hL0:L2=[]:=by have:=hL2.1;simp at this;exact List.eq_nil_of_length_eq_zero this.symm
   subst hL0
   simp only[List.length_nil]at hrun2' hv2'
   rcases hu with⟨e',hu⟩|hu
   all_goals simp[Builtin.append_,run_under ht,run_under hu,run_size hi,hv2',hrun2']
  ·have hpos:0<rows'.length:=List.length_pos_iff.2 hz0
   obtain⟨cap,rest,hc1,hc2,hrest,hrun⟩:=run_append_new (P:=P) (ty:=ty) (s:= .slice none 0 0) (x:=a.eval y) (L:=[]) (L':=L') (n:=0) (c:=0) (n':=rows'.length) ht hu hi hz hb rfl hv2 (by omega) (by simpa using hbig) (by simp[Builtin.firstCells]) hrun2
   rw[hrun]
   simp only[Nat.zero_add,List.nil_append]at hc1 ⊢
   have hlen:L'.length=rows'.length * i.size:=by rw[← hL'.1,flatten_len _ hsz']
   refine⟨_,_,M.add w.drew.heap.size L'.length (L'++rest),_,_,rfl,hI.drew'.le_add _ _,hI.drew'.addTail _ _ e (by simp) _,?_,hcons hz0 _ L'.length _ hlen⟩
   have hr:Rows (M.add w.drew.heap.size L'.length (L'++rest)) w.drew.heap.size 0 i.size rows' (fun k=>L'.getD k undef):=
    Rows.of_flat hsz' (hL'.mono (hI.drew'.le_add _ _)) (fun k v hk=>by
     have hk':k<L'.length:=(List.getElem?_eq_some_iff.1 hk).1
     have:M.add w.drew.heap.size L'.length (L'++rest) w.drew.heap.size (0+k)=(L'++rest)[k]? :=by simp[Mem.add,hk']
     rw[this,List.getElem?_append_left hk',hk])
   have hzs:(L'++rest).length=cap * i.size:=by
    rw[List.length_append,hrest,hlen,hzc,Nat.zero_add,← Nat.add_mul];congr 1;omega
   exact R.mk_own hr hc1 hc2 (.inr ⟨by omega,by omega⟩) hp
 ·rename_i ez tg b u' c rows rows' hxe hye
  rw[hxe]at hx
  obtain⟨rfl,hbt,hbig,hone,h⟩:=h
  obtain⟨off,cap,cs,hv,hr,h4,h5,h6,h8⟩:=hx.of_own
  obtain⟨base1,cap1,L,hv1,hL,hsz,hrun1⟩:=rowsV_cells (P:=P) (rows:=rows) (esz:=i.size) hI.drew' hx (by simp[rowsV]) (fun⟨s,h⟩=>by cases h)
  obtain⟨L',hv2,hL',hsz',hrun2⟩:=rowsV_src (P:=P) hI.drew' hy hye
  have hlen:L.length=rows.length * i.size:=by rw[← hL.1,flatten_len _ hsz]
  have hlen':L'.length=rows'.length * i.size:=by rw[← hL'.1,flatten_len _ hsz']
  by_cases hfit:rows.length+rows'.length≤cap
  ·
   obtain⟨L2,hv2',hL2,hsz2,hrun2'⟩:=rowsV_src (P:=P) hI hy hye
   have hlen2:L2.length=rows'.length * i.size:=by rw[← hL2.1,flatten_len _ hsz2]
   have hall:L2.all Value.oneCell'=true:=hL2.all_one (rows_all_one hone)
   have hrunA:∀ w',(storeCells ⟨b,off+rows.length * i.size,none⟩ L2).run P w= .ok () w'→(Builtin.append_ #[t,u] ty #[a.eval x,a.eval y]).run P w= .ok (.slice (some ⟨b,off,none⟩) (rows.length+rows'.length) cap) w':=by
    intro w' hs
    rw[hv]at *
    rcases hu with⟨e',hu⟩|hu
    all_goals simp[Builtin.append_,run_under ht,run_under hu,run_size hi,hv2',hfit,hrun2',Addr.add_lit,hs]
   rcases h6 with h6|⟨h6,h7⟩
   ·have e1:rows=[]:=List.eq_nil_of_length_eq_zero (by omega)
    have e2:rows'=[]:=List.eq_nil_of_length_eq_zero (by omega)
    subst e1 e2
    have e3:L2=[]:=List.eq_nil_of_length_eq_zero (by simpa using hlen2)
    subst e3
    refine⟨_,w,M,_,_,hrunA w rfl,Mem.le.refl _,?_,?_,h b u' c (fun e=>by simpa using e)⟩
    ·obtain⟨pre,post,hs1,hs2⟩:=upt_split hbt
     rw[hs2,← hs1]
     exact hI
    ·exact R.mk_own (rows:=[]++[]) (cs:=cs) ⟨fun i hi=>absurd hi (by simp),fun k hk=>absurd hk (by simp),fun i hi=>absurd hi (by simp)⟩ (by simp) h5 (.inl h6) h8
   ·have hcap:(rows.length+rows'.length) * i.size≤cap * i.size:=Nat.mul_le_mul_right _ hfit
    rw[Nat.add_mul]at hcap
    obtain⟨w',hs,hI'⟩:=Inv.tailWrite (P:=P) hI hbt L2 (by omega) hall
    rw[← h6]at hs
    have hle:=hI.ext_le hbt L2
    refine⟨_,w',_,_,_,hrunA w' hs,hle,hI',?_,h b (u'+L2.length) c (fun e=>by rw[e,hlen2,Nat.add_mul])⟩
    obtain⟨L0,hL0,hLm⟩:∃ L0:List Value,RL M rows.flatten L0∧∀ k v,L0[k]? =some v→M b (off+k)=some v:=⟨_,hr.flat,fun k v hk=>by
     obtain⟨hk1,hk2⟩:=List.getElem?_eq_some_iff.1 hk
     simp at hk1 hk2
     rw[← hk2]
     exact hr.mem k hk1⟩
    have hlen0:L0.length=rows.length * i.size:=by rw[← hL0.1,flatten_len _ hsz]
    obtain⟨cs2,hj⟩:=Rows.join (M':=M.ext b u' L2) (b:=b) (off:=off) hsz hsz2 (hL0.mono hle) (hL2.mono hle) (fun k v hk=>by
     by_cases hlt:k<L0.length
     ·rw[List.getElem?_append_left hlt]at hk
      exact hle _ _ _ (hLm k v hk)
     ·rw[List.getElem?_append_right (by omega)]at hk
      have hk':=(List.getElem?_eq_some_iff.1 hk).1
      simp only[Mem.ext]
      rw[if_pos ⟨trivial,by omega,by omega⟩,← hk]
      congr 1
      omega)
    have:=R.mk_own (t:=tg) (u:=u'+L2.length) (c:=c) hj (cap:=cap) (by simpa using hfit) h5 (.inr ⟨by rw[List.length_append,Nat.add_mul];omega,h7⟩) h8
    rw[List.length_append]at this
    exact this
  ·obtain⟨cap',rest,hc1,hc2,hrest,hrun⟩:=run_append_new (P:=P) (ty:=ty) (s:=a.eval x) (x:=a.eval y) (L:=L) (L':=L') (n:=rows.length) (c:=cap) (n':=rows'.length) ht hu hi hz hb hv hv2 (by omega) hbig hrun1 hrun2
   rw[hrun]
   have hId:=hI.drew'
   have hle:=hId.le_add (L++L').length (L++L'++rest)
   refine⟨_,_,M.add w.drew.heap.size (L++L').length (L++L'++rest),_,_,rfl,hle,hId.moveTail hbt _ _ e (by simp),?_,h _ (L++L').length _ (fun _=>by rw[List.length_append,hlen,hlen',Nat.add_mul])⟩
   obtain⟨cs2,hj⟩:=Rows.join (M':=M.add w.drew.heap.size (L++L').length (L++L'++rest)) (b:=w.drew.heap.size) (off:=0) hsz hsz' (hL.mono hle) (hL'.mono hle) (fun k v hk=>by
    have hk':k<(L++L').length:=(List.getElem?_eq_some_iff.1 hk).1
    have:M.add w.drew.heap.size (L++L').length (L++L'++rest) w.drew.heap.size (0+k)=(L++L'++rest)[k]? :=by unfold Mem.add;rw[if_pos rfl,if_pos (by omega),Nat.zero_add]
    rw[this,List.getElem?_append_left hk',hk])
   have hzs:(L++L'++rest).length=cap' * i.size:=by
    rw[List.length_append,List.length_append,hrest,hlen,hlen',hzc,← Nat.add_mul,← Nat.add_mul];congr 1;omega
   have hll:(L++L').length=(rows++rows').length * i.size:=by
    rw[List.length_append,hlen,hlen',List.length_append,Nat.add_mul]
   have:=R.mk_own (t:=tg) (u:=(L++L').length) (c:=(L++L'++rest).length) hj (cap:=cap') (by simpa using hc1) hc2 (.inr ⟨by omega,by omega⟩) hp
   rw[List.length_append (as:=rows)]at this
   exact this
 ·rename_i ez rows rows' hxe hye
  rw[hxe]at hx
  obtain⟨rfl,hbig,hnil,h⟩:=h
  obtain⟨b0,off,cs,hv,hr,h5⟩:=hx.of_fl
  by_cases hne:rows'=[]
  ·subst hne
   refine Gives.same hI hx (hnil rfl) ?_
   obtain⟨L2,hv2',hL2,hsz2,hrun2'⟩:=rowsV_src (P:=P) hI hy hye
   have hL0:L2=[]:=by have:=hL2.1;simp at this;exact List.eq_nil_of_length_eq_zero this.symm
   subst hL0
   simp only[List.length_nil]at hrun2' hv2'
   rw[hv]
   rcases hu with⟨e',hu⟩|hu
   all_goals simp[Builtin.append_,run_under ht,run_under hu,run_size hi,hv2',hrun2',Addr.add_lit,storeCells]
  have h:=h hne
  have hpos:0<rows'.length:=List.length_pos_iff.2 hne
  obtain⟨base1,cap1,L,hv1,hL,hsz,hrun1⟩:=rowsV_cells (P:=P) (rows:=rows) (esz:=i.size) hI.drew' (hx.fl_sl true) (by simp[rowsV]) (fun⟨s,h⟩=>by cases h)
  obtain⟨L',hv2,hL',hsz',hrun2⟩:=rowsV_src (P:=P) hI.drew' hy hye
  have hlen:L.length=rows.length * i.size:=by rw[← hL.1,flatten_len _ hsz]
  have hlen':L'.length=rows'.length * i.size:=by rw[← hL'.1,flatten_len _ hsz']
  obtain⟨cap',rest,hc1,hc2,hrest,hrun⟩:=run_append_new (P:=P) (ty:=ty) (s:=a.eval x) (x:=a.eval y) (L:=L) (L':=L') (n:=rows.length) (c:=rows.length) (n':=rows'.length) ht hu hi hz hb hv hv2 (by omega) hbig hrun1 hrun2
  rw[hrun]
  have hId:=hI.drew'
  have hle:=hId.le_add (L++L').length (L++L'++rest)
  refine⟨_,_,M.add w.drew.heap.size (L++L').length (L++L'++rest),_,_,rfl,hle,hId.addTail _ _ e (by simp) _,?_,h _ _ _⟩
  obtain⟨cs2,hj⟩:=Rows.join (M':=M.add w.drew.heap.size (L++L').length (L++L'++rest)) (b:=w.drew.heap.size) (off:=0) hsz hsz' (hL.mono hle) (hL'.mono hle) (fun k v hk=>by
   have hk':k<(L++L').length:=(List.getElem?_eq_some_iff.1 hk).1
   have:M.add w.drew.heap.size (L++L').length (L++L'++rest) w.drew.heap.size (0+k)=(L++L'++rest)[k]? :=by unfold Mem.add;rw[if_pos rfl,if_pos (by omega),Nat.zero_add]
   rw[this,List.getElem?_append_left hk',hk])
  have hzs:(L++L'++rest).length=cap' * i.size:=by
   rw[List.length_append,List.length_append,hrest,hlen,hlen',hzc,← Nat.add_mul,← Nat.add_mul];congr 1;omega
  have hll:(L++L').length=(rows++rows').length * i.size:=by
   rw[List.length_append,hlen,hlen',List.length_append,Nat.add_mul]
  have:=R.mk_own (t:=d.getD 0) (u:=(L++L').length) (c:=(L++L'++rest).length) hj (cap:=cap') (by simpa using hc1) hc2 (.inr ⟨by omega,by omega⟩) hp
  rw[List.length_append (as:=rows)]at this
  exact this
 ·exact h.elim
end
end Go.Sx
