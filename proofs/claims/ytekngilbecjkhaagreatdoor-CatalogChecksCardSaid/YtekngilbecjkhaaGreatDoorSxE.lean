/-
  The layer Sx: strings, conversions, maps, functions with what they hold: the rules.
-/
import Derived.Test.YtekngilbecjkhaaGreatDoorSxSt
import Derived.Laws.BytesString
set_option linter.unusedVariables false
set_option linter.unusedSimpArgs false
set_option linter.unusedSectionVars false
namespace Go.Sx
open Go.RowKit
theorem RL.un1{M:Mem}{x:AV}{vs:List Value}(h:RL M [x] vs):∃ v,vs=[v]∧R M x v:=by
 obtain⟨v,vs',rfl,h1,h2⟩:=h.uncons
 exact⟨v,by rw[h2.unnil],h1⟩
def slsO(lo hi:Option Operand)(as:List AV):Option (ByteArray×Int×Int):=
 match lo,hi,as with
 |none,none,[.v (.string s)]=>some (s,0,s.size)
 |some _,none,[.v (.string s),.v (.int _ a)]=>some (s,a,s.size)
 |none,some _,[.v (.string s),.v (.int _ b)]=>some (s,0,b)
 |some _,some _,[.v (.string s),.v (.int _ a),.v (.int _ b)]=>some (s,a,b)
 |_,_,_=>none
def u8s:List (List AV)→Option (List Int)
 |[]=>some []
 |[.v (.int .u8 n)]::l=>(u8s l).map (n::·)
 |_=>none
def bytesI(ns:List Int):ByteArray:=⟨(ns.map fun n=>UInt8.ofNat n.toNat).toArray⟩
section
variable {P:Program}[Glob P]{M:Mem}{w0 w:World}{σ:Store}
theorem OpP_sls{t ty:TypeId}{x:Operand}{lo hi:Option Operand}{as:List AV}{s:ByteArray}{a b:Int}(h:slsO lo hi as=some (s,a,b))(hb:0≤a∧a≤b∧b≤s.size):
  OpP P (.slice t x lo hi none) ty [.str] (x::(lo.toList++hi.toList)) as (.v (.string (s.extract a.toNat b.toNat))):=⟨fun σ hti M w0 w ρ hI hR=>by
 have ht:P.underlying t=some .string:=by
  simp only[opInfo,List.cons.injEq,and_true]at hti;exact tiOf_str hti
 refine⟨.value (.string (s.extract a.toNat b.toNat)),w,M,.v (.string (s.extract a.toNat b.toNat)),.string (s.extract a.toNat b.toNat),σ,?_,rfl,Mem.le.refl _,hI,.v _,rfl,rfl⟩
 unfold slsO at h
 split at h<;>cases h
 ·obtain⟨v,hv,hx⟩:=hR.un1
  simp only[Option.toList_none,List.append_nil,List.map_cons,List.map_nil,List.cons.injEq,and_true]at hv
  simp[execOp,Instr.sliceAt,run_under ht,Instr.slice,Instr.sliceBounds,hv,hx.of_v]
 ·obtain⟨v,vs,hv,hx,hR2⟩:=hR.uncons
  obtain⟨v2,hv2,hx2⟩:=hR2.un1
  subst hv2
  simp only[Option.toList_none,Option.toList_some,List.append_nil,List.map_cons,List.map_nil,List.cons.injEq,and_true]at hv
  have e1:=hx.of_v
  have e2:=hx2.of_v
  have h1:(0:Int)≤a∧a≤(s.size:Int):=⟨hb.1,hb.2.1⟩
  simp[execOp,Instr.sliceAt,run_under ht,Instr.slice,Instr.sliceBounds,Instr.sliceBound,asIntOf,hv.1,hv.2,e1,e2,h1]
 ·obtain⟨v,vs,hv,hx,hR2⟩:=hR.uncons
  obtain⟨v2,hv2,hx2⟩:=hR2.un1
  subst hv2
  simp only[Option.toList_none,Option.toList_some,List.nil_append,List.map_cons,List.map_nil,List.cons.injEq,and_true]at hv
  have e1:=hx.of_v
  have e2:=hx2.of_v
  have h1:(0:Int)≤b∧b≤(s.size:Int):=⟨hb.2.1,hb.2.2⟩
  simp[execOp,Instr.sliceAt,run_under ht,Instr.slice,Instr.sliceBounds,Instr.sliceBound,asIntOf,hv.1,hv.2,e1,e2,h1]
 ·obtain⟨v,vs,hv,hx,hR2⟩:=hR.uncons
  obtain⟨v2,vs2,hv2,hx2,hR3⟩:=hR2.uncons
  obtain⟨v3,hv3,hx3⟩:=hR3.un1
  subst hv3
  subst hv2
  simp only[Option.toList_some,List.cons_append,List.nil_append,List.map_cons,List.map_nil,List.cons.injEq,and_true]at hv
  have e1:=hx.of_v
  have e2:=hx2.of_v
  have e3:=hx3.of_v
  have h1:(0:Int)≤b∧b≤(s.size:Int):=⟨by omega,hb.2.2⟩
  have h2:(0:Int)≤a∧a≤(b.toNat:Int):=⟨hb.1,by omega⟩
  simp[execOp,Instr.sliceAt,run_under ht,Instr.slice,Instr.sliceBounds,Instr.sliceBound,asIntOf,hv.1,hv.2.1,hv.2.2,e1,e2,e3,h1,h2]
  intro hlt
  omega⟩
theorem u8s_cells{M:Mem}:∀ {rows:List (List AV)} {ns:List Int} {L:List Value},u8s rows=some ns→RL M rows.flatten L→L=ns.map (.int .u8)
 |[],ns,L,h,hR=>by cases h;exact hR.unnil
 |r::rows,ns,L,h,hR=>by
  unfold u8s at h
  split at h
  ·rename_i he;cases he
  ·rename_i n l he
   cases he
   obtain⟨ns',h1,rfl⟩:=Option.map_eq_some_iff.1 h
   obtain⟨v,vs,rfl,hx,hR2⟩:=RL.uncons (x:= .v (.int .u8 n)) (xs:=rows.flatten) hR
   rw[hx.of_v,u8s_cells h1 hR2];rfl
  ·cases h
theorem bytesI_fold(ns:List Int):ns.foldl (fun r n=>r.push (UInt8.ofNat n.toNat)) ByteArray.empty=bytesI ns:=by
 have:∀ (ns:List Int) (s:ByteArray),ns.foldl (fun r n=>r.push (UInt8.ofNat n.toNat)) s=⟨s.data++(ns.map fun n=>UInt8.ofNat n.toNat).toArray⟩:=by
  intro ns
  induction ns with
  |nil=>intro s;simp
  |cons n ns ih=>
   intro s
   rw[List.foldl_cons,ih]
   congr 1
   apply Array.ext'
   simp[ByteArray.push]
 rw[this]
 simp only[bytesI]
 congr 1
 apply Array.ext'
 simp[ByteArray.empty,ByteArray.emptyWithCapacity]
 try rfl
theorem OpP_cvbs{src dst e ty:TypeId}{x:Operand}{v:AV}{rows:List (List AV)}{ns:List Int}{q:TI}(hv:rowsV 1 v=some rows)(hns:¬∃ s,v= .v (.string s))(hn:u8s rows=some ns):
  OpP P (.convert src dst x) ty [.sl e,.int .u8,.str,q] [x] [v] (.v (.string (bytesI ns))):=⟨fun σ hti M w0 w ρ hI hR=>by
 simp only[opInfo,List.cons.injEq,and_true]at hti
 have hs:=tiOf_sl hti.1
 have he:P.underlying e=some (.int .u8):=by
  have:=hti.2.1
  unfold elU at this
  rw[hs]at this
  exact tiOf_int this
 have hd:=tiOf_str hti.2.2.1
 obtain⟨u,hu,hx⟩:=hR.un1
 simp only[List.map_cons,List.map_nil,List.cons.injEq,and_true]at hu
 obtain⟨base,cap,L,rfl,hL,_,hrun⟩:=rowsV_cells (P:=P) hI hx hv hns
 have hL':=u8s_cells hn hL
 subst hL'
 refine⟨.value (.string (bytesI ns)),w,M,.v (.string (bytesI ns)),.string (bytesI ns),σ,?_,rfl,Mem.le.refl _,hI,.v _,rfl,rfl⟩
 have hc:=run_convert_bytes_string (P:=P) w src dst e base rows.length cap hs he hd
 simp only[execOp,hu,Sem.run_bind,hc]
 cases base with
 |none=>
  simp only[Builtin.firstCells,Sem.run_pure,Result.ok.injEq,and_true]at hrun
  have:ns=[]:=by
   have:=congrArg Array.toList hrun
   simpa using this
  subst this
  simp[Conv.bytesToString,Sem.run_pure]
  rfl
 |some a=>
  simp only[Builtin.firstCells,Nat.mul_one]at hrun
  rw[run_bytesToString w a rows.length cap ns hrun,bytesI_fold]
  simp[Sem.run_pure]⟩
theorem u8s_map:∀ (ls:List UInt8),u8s (ls.map byteRow)=some (ls.map fun b=>(b.toNat:Int))
 |[]=>rfl
 |b::ls=>by
  show(u8s (ls.map byteRow)).map ((b.toNat:Int)::·)=_
  rw[u8s_map ls];rfl
theorem bytesI_map(ls:List UInt8):bytesI (ls.map fun b=>(b.toNat:Int))=⟨ls.toArray⟩:=by
 simp only[bytesI,List.map_map]
 congr 2
 conv=>rhs;rw[← List.map_id ls]
 apply List.map_congr_left
 intro b _
 simp
theorem Inv.newImm(hI:Inv P M w0 σ w){w':World}(e1:w'.os=w.os)(e2:w'.tape=w.tape)(e3:w'.output=w.output)(hs:w.heap.size≤w'.heap.size)(hold:∀ k,k<w.heap.size→w'.heap[k]? =w.heap[k]?)(cs:List Value)
  (hc:∀ o v,cs[o]? =some v→w'.cell? ⟨w.heap.size,o,none⟩=some v):Inv P (M.add w.heap.size cs.length cs) w0 σ w':=by
 have hle:=hI.le_add cs.length cs
 refine⟨e1.trans hI.os,e2.trans hI.tape,e3.trans hI.output,Nat.le_trans hI.size hs,fun k hk=>(hold k (Nat.lt_of_lt_of_le hk hI.size)).trans (hI.old k hk),fun b o v hv=> ?_,fun e he=>⟨(hI.st e he).1,?_⟩,hI.nd,fun g l e=>(hI.gl g l e).mono hle,hI.gw⟩
 ·simp only[Mem.add]at hv
  split at hv
  ·rename_i e
   subst e
   split at hv
   ·exact hc o v hv
   ·cases hv
  ·have h1:=hI.imm b o v hv
   have hb:b<w.heap.size:=by simpa using World.block_lt_of_cell? _ _ h1
   rw[← h1]
   simp only[World.cell?,hold b hb]
 ·obtain⟨tg,b,x⟩:=e
  have hk:=(hI.st _ he).2
  have hlt:b<w.heap.size:=hI.lt_of he
  have hne:b≠w.heap.size:=by omega
  have hk2:=hk.heap (hold b hlt)
  cases x with
  |cells l=>obtain⟨h1,cs',t',h2,h3⟩:=hk2;exact⟨fun o=>by simp[Mem.add,hne,h1 o],cs',t',h2,h3.mono hle⟩
  |tail u' c=>obtain⟨h1,cs',t',h2,h3⟩:=hk2;exact⟨fun o ho=>by simp[Mem.add,hne,h1 o ho],cs',t',h2,h3⟩
  |map es k=>obtain⟨h1,l,h2,h3,h4⟩:=hk2;exact⟨fun o=>by simp[Mem.add,hne,h1 o],l,h2,h3,h4.mono hle⟩
theorem OpP_cvsb{src dst e ty:TypeId}{x:Operand}{s:ByteArray}{q:TI}(hs0:s.size≤9223372036854775806):OpP P (.convert src dst x) ty [.str,q,.sl e,.int .u8] [x] [.v (.string s)] (.sl true 1 (s.data.toList.map byteRow)):=⟨fun σ hti M w0 w ρ hI hR=>by
 simp only[opInfo,List.cons.injEq,and_true]at hti
 have hs:=tiOf_str hti.1
 have hd:=tiOf_sl hti.2.2.1
 have he:P.underlying e=some (.int .u8):=by
  have:=hti.2.2.2
  unfold elU at this
  rw[hd]at this
  exact tiOf_int this
 obtain⟨u,hu,hx⟩:=hR.un1
 simp only[List.map_cons,List.map_nil,List.cons.injEq,and_true]at hu
 have hxv:=hx.of_v
 subst hxv
 let q0:=Question.appendCap s.size 0 e
 let cap:=q0.cut (w.tape w.drawn q0)
 have hcap:cap=s.size+w.tape w.drawn q0 % (2 ^ 63-s.size):=rfl
 have hmod:w.tape w.drawn q0 % (2 ^ 63-s.size)<2 ^ 63-s.size:=Nat.mod_lt _ (by omega)
 let arr:Array Value:=s.data.map (fun b=>Value.int .u8 b.toNat)++Array.replicate (cap-s.size) (.int .u8 0)
 let w1:World:=w.drew.alloc (.cells arr e)
 let w2:World:=w1.freeze ⟨w.heap.size,arr.size,none⟩ 1
 let cs:List Value:=s.data.toList.map (fun b=>Value.int .u8 b.toNat)
 have hlen:cs.length=s.size:=by simp[cs]
 have hfz:∀ k,k≠w.heap.size→w2.heap[k]? =w1.heap[k]? :=fun k hk=>by
  have hk':¬w.heap.size=k:=fun e=>hk e.symm
  simp only[w2,World.freeze,Nat.one_ne_zero,if_false,Array.getElem?_modify,if_neg hk']
 have h1:w1.heap[w.heap.size]? =some (.cells arr e):=heap_alloc_new w.drew _
 have h2:∃ f,w2.heap[w.heap.size]? =some (.cells arr e f):=by
  simp only[w2,World.freeze,Nat.one_ne_zero,if_false,Array.getElem?_modify,if_true,h1,Option.map_some]
  exact⟨_,rfl⟩
 have hold:∀ k,k<w.heap.size→w2.heap[k]? =w.heap[k]? :=fun k hk=>(hfz k (by omega)).trans (heap_alloc_lt w.drew _ k hk)
 have hcell:∀ o v,cs[o]? =some v→w2.cell? ⟨w.heap.size,o,none⟩=some v:=fun o v hv=>by
  obtain⟨f,h2⟩:=h2
  simp only[World.cell?,h2,Option.isSome_none,Bool.false_eq_true,if_false,arr]
  have ho:o<s.size:=by rw[← hlen];exact(List.getElem?_eq_some_iff.1 hv).1
  rw[Array.getElem?_append_left (by simpa using ho)]
  rw[← hv]
  simp[cs]
 have hI2:Inv P (M.add w.heap.size cs.length cs) w0 σ w2:=Inv.newImm (w':=w2) hI rfl rfl rfl (by simp[w2,World.freeze,w1]) hold cs hcell
 refine⟨.value (.slice (some ⟨w.heap.size,0,none⟩) s.size cap),w2,_,.sl true 1 (s.data.toList.map byteRow),_,σ,?_,rfl,hI.le_add _ _,hI2,?_,rfl,rfl⟩
 ·have hf:q0.forced=false:=rfl
  have hsh:w1.shape? w.heap.size=some (e,arr.size):=by simp only[World.shape?,h1]
  simp only[execOp,hu,convert,Sem.run_bind,run_under hs,run_under hd,run_under he,Result.andThen_ok,Conv.stringToBytes,newRow,markStringish]
  simp[choose,Sem.run,Sem.bind,Bind.bind,Pure.pure,Question.forced,newObj,shape,freeze]
  erw [hsh]
  rfl
 ·have hr:Rows (M.add w.heap.size cs.length cs) w.heap.size 0 1 (s.data.toList.map byteRow) (fun k=>cs.getD k undef):=by
   refine Rows.of_flat (fun i hi=>by simp[byteRow]) ?_ (fun k v hv=> ?_)
   ·have:∀ l:List UInt8,RL (M.add w.heap.size cs.length cs) (l.map byteRow).flatten (l.map fun b=>Value.int .u8 b.toNat):=by
     intro l
     induction l with
     |nil=>exact RL.nil
     |cons b l ih=>exact RL.cons (.v _) ih
    exact this _
   ·have hk:k<cs.length:=(List.getElem?_eq_some_iff.1 hv).1
    simp only[Mem.add,if_true,Nat.zero_add]
    rw[if_pos hk];exact hv
  have:=R.mk_sl (cap:=cap) hr (by simp;omega) (by unfold maxLen;omega) true
  simpa using this⟩
end
def plainK:TI→Option TypeDesc
 | .int k=>some (.int k)
 | .str=>some .string
 |_=>none
theorem plainK_eq{q:TI}{kd:TypeDesc}{d:Option TypeDesc}(h:plainK q=some kd)(ht:tiOf d=q):d=some kd:=by
 unfold plainK at h
 split at h
 ·cases h;exact tiOf_int ht
 ·cases h;exact tiOf_str ht
 ·cases h
def findA(kd:TypeDesc)(k:Value):List (Value×Nat×AV)→Option (Option AV)
 |[]=>some none
 |e::es=>match Instr.sameNow kd k e.1 with
  |some true=>some (some e.2.2)
  |some false=>findA kd k es
  |none=>none
theorem findA_none{M:Mem}{kd:TypeDesc}{k:Value}:∀ {es:List (Value×Nat×AV)} {l:List MapEntry} (i:Nat),l.map (fun e=>(e.key,e.born))=es.map (fun e=>(e.1,e.2.1))→findA kd k es=some none→Instr.findNow kd k l i=some none
 |[],l,i,hk,_=>by
  have:l=[]:=by simpa using hk
  subst this;rfl
 |e::es,l,i,hk,h=>by
  cases l with
  |nil=>simp at hk
  |cons m l=>
   simp only[List.map_cons,List.cons.injEq,Prod.mk.injEq]at hk
   simp only[findA]at h
   simp only[Instr.findNow,hk.1.1]
   split at h
   ·cases h
   ·rename_i e1;rw[e1];exact findA_none (M:=M) (i+1) hk.2 h
   ·cases h
theorem findA_some{M:Mem}{kd:TypeDesc}{k:Value}{x:AV}:∀ {es:List (Value×Nat×AV)} {l:List MapEntry} (i:Nat),l.map (fun e=>(e.key,e.born))=es.map (fun e=>(e.1,e.2.1))→RL M (es.map (·.2.2)) (l.map (·.val))→findA kd k es=some (some x)→
  ∃ j v,Instr.findNow kd k l i=some (some (j,v))∧R M x v
 |[],l,i,_,_,h=>by cases h
 |e::es,l,i,hk,hR,h=>by
  cases l with
  |nil=>simp at hk
  |cons m l=>
   simp only[List.map_cons,List.cons.injEq,Prod.mk.injEq]at hk
   obtain⟨v,vs,hv,hx,hR2⟩:=RL.uncons (x:=e.2.2) (xs:=es.map (·.2.2)) hR
   simp only[List.map_cons,List.cons.injEq]at hv
   obtain⟨hv1,rfl⟩:=hv
   simp only[findA]at h
   simp only[Instr.findNow,hk.1.1]
   split at h
   ·rename_i e1
    cases h
    rw[e1]
    exact⟨i,m.val,rfl,by rw[hv1];exact hx⟩
   ·rename_i e1;rw[e1];exact findA_some (i+1) hk.2 hR2 h
   ·cases h
section
variable {P:Program}[Glob P]{M:Mem}{w0 w:World}{σ:Store}
theorem run_checkKey{b:Bool}{n:Nat}{q:TI}{kd:TypeDesc}{kt:TypeId}{v:Value}(hp:plainK q=some kd)(hk:P.underlying kt=some kd):(Instr.checkKey b (n+1) kt v).run P w= .ok () w:=by
 unfold plainK at hp
 split at hp
 ·cases hp;cases v<;>simp[Instr.checkKey,run_under hk]
 ·cases hp;cases v<;>simp[Instr.checkKey,run_under hk]
 ·cases hp
theorem Inv.getMap{tg b k:Nat}{es:List (Value×Nat×AV)}(hI:Inv P M w0 σ w)(hb:lkt σ tg=some (b,.map es k)):
  (∀ o,M b o=none)∧∃ l:List MapEntry,w.heap[b]? =some (.map l.toArray k)∧l.map (fun e=>(e.key,e.born))=es.map (fun e=>(e.1,e.2.1))∧RL M (es.map (·.2.2)) (l.map (·.val)):=(hI.st _ (lkt_mem hb)).2
theorem OpS_mkmap(tag:Nat){t ty:TypeId}{ti:List TI}:OpS P (.makeMap t none) ty ti [] [] σ fun x σ'=>∃ b,x= .mpt tag b∧σ'=(tag,b,.map [] 0)::σ:=by
 intro _ M w0 w ρ hI _
 refine⟨.value (.map (some w.heap.size)),w.alloc (.map #[] 0),M,.mpt tag w.heap.size,_,_,?_,rfl,Mem.le.refl _,?_,.mpt _ _,_,rfl,rfl⟩
 ·simp[execOp,Instr.makeMap,newObj]
  rfl
 ·have h':=hI.alloc (.map #[] 0)
  refine⟨h'.os,h'.tape,h'.output,h'.size,h'.old,h'.imm,fun e he=> ?_,?_,h'.gl,h'.gw⟩
  ·rcases List.mem_cons.1 he with rfl|he
   ·exact⟨hI.size,hI.freshM,[],heap_alloc_new _ _,rfl,RL.nil⟩
   ·exact h'.st e he
  ·simp only[List.map_cons,List.nodup_cons]
   exact⟨hI.fresh,hI.nd⟩
theorem OpS_ins{tg b clk:Nat}{es:List (Value×Nat×AV)}{t ty kt vt:TypeId}{q:TI}{kd:TypeDesc}{m k x:Operand}{key:Value}{v:AV}(hp:plainK q=some kd)(hl:lkt σ tg=some (b,.map es clk))(hf:findA kd key es=some none):
  OpS P (.insert t m k x) ty [.mp kt vt,q] [m,k,x] [.mpt tg b,.v key,v] σ fun y σ'=>y= .v undef∧σ'=upt σ tg b (.map (es++[(key,clk,v)]) (clk+1)):=by
 intro hti M w0 w ρ hI hR
 simp only[opInfo,List.cons.injEq,and_true]at hti
 have ht:=tiOf_mp hti.1
 have hk:P.underlying kt=some kd:=by
  have:=hti.2
  unfold keyU at this
  rw[ht]at this
  exact plainK_eq hp this
 obtain⟨v1,vs1,e1,h1,hR1⟩:=hR.uncons
 obtain⟨v2,vs2,e2,h2,hR2⟩:=hR1.uncons
 obtain⟨v3,e3,h3⟩:=hR2.un1
 subst e3 e2
 simp only[List.map_cons,List.map_nil,List.cons.injEq,and_true]at e1
 obtain⟨hM,l,hh,hkeys,hvals⟩:=hI.getMap hl
 have g1:=h1.of_mpt
 have g2:=h2.of_v
 subst g1 g2
 have hfn:=findA_none (M:=M) 0 hkeys hf
 let w':World:={w with heap:=w.heap.setIfInBounds b (.map (l++[(⟨v2,v3,clk⟩:MapEntry)]).toArray (clk+1))}
 have hlt:b<w.heap.size:=(Array.getElem?_eq_some_iff.1 hh).1
 refine⟨.skip,w',M,.v undef,undef,_,?_,rfl,Mem.le.refl _,?_,.v _,rfl,rfl⟩
 ·have hu:l.toArray.push (⟨v2,v3,clk⟩:MapEntry)=(l++[(⟨v2,v3,clk⟩:MapEntry)]).toArray:=by apply Array.ext';simp
  simp only[execOp,e1.1,e1.2.1,e1.2.2,Instr.mapUpdate,Sem.run_bind,run_under ht,Result.andThen_ok,getObj,Sem.run,hh,run_checkKey hp hk,Instr.findKey,run_under hk,hfn,Sem.run_pure,setObj,hu]
  rfl
 ·refine hI.upd (y:= .map (es++[(v2,clk,v)]) (clk+1)) hl (fun k hk=> ?_) rfl rfl rfl (by simp[w']) hM ⟨hM,l++[⟨v2,v3,clk⟩],?_,?_,?_⟩
  ·simp only[w']
   rw[Array.getElem?_setIfInBounds_ne (fun e=>hk e.symm)]
  ·simp only[w']
   rw[Array.getElem?_setIfInBounds_self_of_lt hlt]
  ·simp[hkeys]
  ·simp only[List.map_append,List.map_cons,List.map_nil]
   exact RL.append hvals (RL.cons h3 RL.nil)
theorem OpS_lk{tg b clk:Nat}{es:List (Value×Nat×AV)}{t ty kt vt:TypeId}{q:TI}{kd:TypeDesc}{m k:Operand}{key:Value}{v:AV}(hp:plainK q=some kd)(hl:lkt σ tg=some (b,.map es clk))(hf:findA kd key es=some (some v)):
  OpS P (.lookup t m k false) ty [.mp kt vt,q] [m,k] [.mpt tg b,.v key] σ fun y σ'=>y=v∧σ'=σ:=by
 intro hti M w0 w ρ hI hR
 simp only[opInfo,List.cons.injEq,and_true]at hti
 have ht:=tiOf_mp hti.1
 have hk:P.underlying kt=some kd:=by
  have:=hti.2
  unfold keyU at this
  rw[ht]at this
  exact plainK_eq hp this
 obtain⟨v1,vs1,e1,h1,hR1⟩:=hR.uncons
 obtain⟨v2,e2,h2⟩:=hR1.un1
 subst e2
 simp only[List.map_cons,List.map_nil,List.cons.injEq,and_true]at e1
 obtain⟨hM,l,hh,hkeys,hvals⟩:=hI.getMap hl
 have g1:=h1.of_mpt
 have g2:=h2.of_v
 subst g1 g2
 obtain⟨j,u,hfn,hu⟩:=findA_some (M:=M) 0 hkeys hvals hf
 refine⟨.value u,w,M,v,u,σ,?_,rfl,Mem.le.refl _,hI,hu,rfl,rfl⟩
 simp only[execOp,e1.1,e1.2,Instr.lookup,Sem.run_bind,run_under ht,Result.andThen_ok,getObj,Sem.run,hh,run_checkKey hp hk,Instr.findKey,run_under hk,hfn,Sem.run_pure]
 rfl
end
section
variable {P:Program}[Glob P]{N:Nat}{cfg:Nat→Nat}{Q:Exit→Regs→Store→Prop}{K:Regs→Store→Prop}{E:List PanicEntry→Store→Prop}{rg:Regs}{σ σ':Store}{l:List CI}{d:Nat}{v:AV}{xr xr':XR}{ps:List Prop}
 {als cf:List Nat} {ix:Nat} {ld:List CD} {g:Option (Nat×Bool)} {og:Option Bool} {as:List AV} {args:List Operand} {op:Op} {ty:TypeId} {ti:List TI}
theorem argO_none(h:argO xr none args=some (og,as,ps)):og=none:=by
 unfold argO gX at h
 obtain⟨ps',h',_,_⟩:=needs_eq h
 split at h'<;>cases h';rfl
theorem VX_extq{r:AV}(h:argO xr g args=some (og,as,ps))(hp:og.getD true=true→OpP P op ty ti args as r)(hps:OB ps)(k:VX P cfg l K E (putX og d r xr) σ):VX P cfg (⟨some d,.extq op ty ti args,g⟩::l) K E xr σ:=by
 obtain⟨hc,he⟩:=argO_eq h
 refine VX_gen hc (fun hg=> ?_) (fun hg=> ?_)
 ·simp only[vcO,he hps hg]
  refine((hp hg).sp σ).mono fun x σ' ⟨e1,e2⟩=> ?_
  subst e1 e2;rw[← putX_t hg];exact k.h
 ·rw[← putX_f hg (v:=r)];exact k.h
theorem VY_extq{r:AV}(h:argO xr g args=some (og,as,ps))(hp:og.getD true=true→OpP P op ty ti args as r)(hps:OB ps)(k:VY P cfg als ld K (putX og d r xr) σ):VY P cfg als (⟨ix,⟨some d,.extq op ty ti args,g⟩,cf⟩::ld) K xr σ:=by
 obtain⟨hc,he⟩:=argO_eq h
 refine VY_gen hc (fun hg=> ?_) (fun hg=> ?_)
 ·simp only[vcOD,IOp.cls,vcOQ,he hps hg]
  refine⟨r,hp hg,?_⟩
  have:=k.h;rw[putX_t hg]at this;exact this
 ·rw[← putX_f hg (v:=r)];exact k.h
theorem VX_sls{t:TypeId}{x:Operand}{lo hi:Option Operand}{s:ByteArray}{a b:Int}(h:argO xr g args=some (og,as,ps))(he:args=x::(lo.toList++hi.toList))(hs:slsO lo hi as=some (s,a,b))(hps:OB ps)
  (hb:og.getD true=true→0≤a∧a≤b∧b≤s.size) (k:VX P cfg l K E (putX og d (.v (.string (s.extract a.toNat b.toNat))) xr) σ):VX P cfg (⟨some d,.extq (.slice t x lo hi none) ty [.str] args,g⟩::l) K E xr σ:=
 VX_extq h (fun hg=>by subst he;exact OpP_sls hs (hb hg)) hps k
theorem VY_sls{t:TypeId}{x:Operand}{lo hi:Option Operand}{s:ByteArray}{a b:Int}(h:argO xr g args=some (og,as,ps))(he:args=x::(lo.toList++hi.toList))(hs:slsO lo hi as=some (s,a,b))(hps:OB ps)
  (hb:og.getD true=true→0≤a∧a≤b∧b≤s.size) (k:VY P cfg als ld K (putX og d (.v (.string (s.extract a.toNat b.toNat))) xr) σ):VY P cfg als (⟨ix,⟨some d,.extq (.slice t x lo hi none) ty [.str] args,g⟩,cf⟩::ld) K xr σ:=
 VY_extq h (fun hg=>by subst he;exact OpP_sls hs (hb hg)) hps k
def noStr:AV→Bool
 | .v (.string _)=>false
 |_=>true
theorem noStr_eq(h:noStr v=true):¬∃ s,v= .v (.string s):=fun⟨s,e⟩=>by subst e;cases h
theorem VX_cvbs{src dst e:TypeId}{x:Operand}{q:TI}{rows:List (List AV)}{ns:List Int}(h:argO xr g [x]=some (og,[v],ps))(hv:rowsV 1 v=some rows)(hn:noStr v=true)(hu:u8s rows=some ns)(hps:OB ps)
  (k:VX P cfg l K E (putX og d (.v (.string (bytesI ns))) xr) σ):VX P cfg (⟨some d,.extq (.convert src dst x) ty [.sl e,.int .u8,.str,q] [x],g⟩::l) K E xr σ:=
 VX_extq h (fun _=>OpP_cvbs hv (noStr_eq hn) hu) hps k
theorem VY_cvbs{src dst e:TypeId}{x:Operand}{q:TI}{rows:List (List AV)}{ns:List Int}(h:argO xr g [x]=some (og,[v],ps))(hv:rowsV 1 v=some rows)(hn:noStr v=true)(hu:u8s rows=some ns)(hps:OB ps)
  (k:VY P cfg als ld K (putX og d (.v (.string (bytesI ns))) xr) σ):VY P cfg als (⟨ix,⟨some d,.extq (.convert src dst x) ty [.sl e,.int .u8,.str,q] [x],g⟩,cf⟩::ld) K xr σ:=
 VY_extq h (fun _=>OpP_cvbs hv (noStr_eq hn) hu) hps k
theorem VX_cvbm{src dst e:TypeId}{x:Operand}{q:TI}{ls:List UInt8}(h:argO xr g [x]=some (og,[v],ps))(hv:rowsV 1 v=some (ls.map byteRow))(hn:noStr v=true)(hps:OB ps)
  (k:VX P cfg l K E (putX og d (.v (.string ⟨ls.toArray⟩)) xr) σ):VX P cfg (⟨some d,.extq (.convert src dst x) ty [.sl e,.int .u8,.str,q] [x],g⟩::l) K E xr σ:=
 VX_extq h (fun _=>by have:=OpP_cvbs (P:=P) (src:=src) (dst:=dst) (e:=e) (ty:=ty) (x:=x) (q:=q) hv (noStr_eq hn) (u8s_map ls);rwa [bytesI_map]at this) hps k
theorem VY_cvbm{src dst e:TypeId}{x:Operand}{q:TI}{ls:List UInt8}(h:argO xr g [x]=some (og,[v],ps))(hv:rowsV 1 v=some (ls.map byteRow))(hn:noStr v=true)(hps:OB ps)
  (k:VY P cfg als ld K (putX og d (.v (.string ⟨ls.toArray⟩)) xr) σ):VY P cfg als (⟨ix,⟨some d,.extq (.convert src dst x) ty [.sl e,.int .u8,.str,q] [x],g⟩,cf⟩::ld) K xr σ:=
 VY_extq h (fun _=>by have:=OpP_cvbs (P:=P) (src:=src) (dst:=dst) (e:=e) (ty:=ty) (x:=x) (q:=q) hv (noStr_eq hn) (u8s_map ls);rwa [bytesI_map]at this) hps k
theorem VX_cvsb{src dst e:TypeId}{x:Operand}{q:TI}{s:ByteArray}(h:argO xr g [x]=some (og,[.v (.string s)],ps))(hps:OB ps)(hb:og.getD true=true→s.size≤9223372036854775806)
  (k:VX P cfg l K E (putX og d (.sl true 1 (s.data.toList.map byteRow)) xr) σ):VX P cfg (⟨some d,.extq (.convert src dst x) ty [.str,q,.sl e,.int .u8] [x],g⟩::l) K E xr σ:=
 VX_extq h (fun hg=>OpP_cvsb (hb hg)) hps k
theorem VY_cvsb{src dst e:TypeId}{x:Operand}{q:TI}{s:ByteArray}(h:argO xr g [x]=some (og,[.v (.string s)],ps))(hps:OB ps)(hb:og.getD true=true→s.size≤9223372036854775806)
  (k:VY P cfg als ld K (putX og d (.sl true 1 (s.data.toList.map byteRow)) xr) σ):VY P cfg als (⟨ix,⟨some d,.extq (.convert src dst x) ty [.str,q,.sl e,.int .u8] [x],g⟩,cf⟩::ld) K xr σ:=
 VY_extq h (fun hg=>OpP_cvsb (hb hg)) hps k
def byteAt(s:ByteArray)(i:Nat):UInt8:=s.data.toList.getD i 0
theorem VX_idx{x i:Operand}{s:ByteArray}{iv:AV}{n:Int}(h:argO xr g [x,i]=some (og,[.v (.string s),iv],ps))(hi:intO iv=some n)(hps:OB ps)(hb:og.getD true=true→0≤n∧n<s.size)
  (k:VX P cfg l K E (putX og d (.v (.int .u8 (byteAt s n.toNat).toNat)) xr) σ):VX P cfg (⟨some d,.idxs x i,g⟩::l) K E xr σ:=by
 obtain⟨hc,he⟩:=argO_eq h
 refine VX_gen hc (fun hg=> ?_) (fun hg=> ?_)
 ·have:=he hps hg
  simp only[evs,List.cons.injEq,and_true]at this
  obtain⟨q,hq⟩:=intO_eq hi
  simp only[vcO,this.1,this.2,hq]
  have hlt:=hb hg
  refine⟨hlt,?_⟩
  have hk:=k.h
  rw[putX_t hg]at hk
  have e:byteAt s n.toNat=s[n.toNat]'(by omega):=by
   have h2:n.toNat<s.data.toList.length:=by rw[Array.length_toList];have:s.size=s.data.size:=rfl;omega
   simp only[byteAt,List.getD_eq_getElem?_getD,List.getElem?_eq_getElem h2,Option.getD_some]
   rfl
  rw[e]at hk
  exact hk
 ·rw[← putX_f hg (v:= .v (.int .u8 (byteAt s n.toNat).toNat))];exact k.h
theorem VY_idx{x i:Operand}{s:ByteArray}{iv:AV}{n:Int}(h:argO xr g [x,i]=some (og,[.v (.string s),iv],ps))(hi:intO iv=some n)(hps:OB ps)(hb:og.getD true=true→0≤n∧n<s.size)
  (k:VY P cfg als ld K (putX og d (.v (.int .u8 (byteAt s n.toNat).toNat)) xr) σ):VY P cfg als (⟨ix,⟨some d,.idxs x i,g⟩,cf⟩::ld) K xr σ:=by
 obtain⟨hc,he⟩:=argO_eq h
 refine VY_gen hc (fun hg=> ?_) (fun hg=> ?_)
 ·have:=he hps hg
  simp only[evs,List.cons.injEq,and_true]at this
  obtain⟨q,hq⟩:=intO_eq hi
  simp only[vcOD,IOp.cls,vcOQ,vcO,this.1,this.2,hq]
  have hlt:=hb hg
  refine⟨hlt,?_⟩
  have hk:=k.h
  rw[putX_t hg]at hk
  have e:byteAt s n.toNat=s[n.toNat]'(by omega):=by
   have h2:n.toNat<s.data.toList.length:=by rw[Array.length_toList];have:s.size=s.data.size:=rfl;omega
   simp only[byteAt,List.getD_eq_getElem?_getD,List.getElem?_eq_getElem h2,Option.getD_some]
   rfl
  rw[e]at hk
  exact hk
 ·rw[← putX_f hg (v:= .v (.int .u8 (byteAt s n.toNat).toNat))];exact k.h
theorem VX_mkmap{t:TypeId}(k:∀ b,VX P cfg l K E ((d,.s (.mpt d b))::xr) ((d,b,.map [] 0)::σ)):VX P cfg (⟨some d,.exts (.makeMap t none) ty ti [],none⟩::l) K E xr σ:=by
 constructor
 simp only[vcX,vcG,vcO,evs]
 refine(OpS_mkmap d).mono fun x σ' ⟨b,e1,e2⟩=> ?_
 subst e1 e2
 exact(k b).h
theorem VX_ins{t kt vt:TypeId}{q:TI}{kd:TypeDesc}{m k x:Operand}{tg b b' clk:Nat}{es:List (Value×Nat×AV)}{key:Value}(h:argO xr none [m,k,x]=some (og,[.mpt tg b,.v key,v],ps))(hp:plainK q=some kd)(hl:lkt σ tg=some (b',.map es clk))(hb:b=b')
  (hf:findA kd key es=some none) (hu:updS σ tg b (.map (es++[(key,clk,v)]) (clk+1))=some σ') (hps:OB ps) (kk:VX P cfg l K E xr σ'):VX P cfg (⟨none,.exts (.insert t m k x) ty [.mp kt vt,q] [m,k,x],none⟩::l) K E xr σ:=by
 obtain⟨hc,he⟩:=argO_eq h
 have hog:=argO_none h
 subst hog
 subst hb
 constructor
 simp only[vcX,vcG,vcO,he hps rfl]
 refine(OpS_ins hp hl hf).mono fun y s ⟨e1,e2⟩=> ?_
 rw[updS_eq hu]at e2
 subst e1 e2
 exact kk.h
theorem VX_lk{t kt vt:TypeId}{q:TI}{kd:TypeDesc}{m k:Operand}{tg b b' clk:Nat}{es:List (Value×Nat×AV)}{key:Value}(h:argO xr none [m,k]=some (og,[.mpt tg b,.v key],ps))(hp:plainK q=some kd)(hl:lkt σ tg=some (b',.map es clk))(hb:b=b')
  (hf:findA kd key es=some (some v)) (hps:OB ps) (kk:VX P cfg l K E ((d,.s v)::xr) σ):VX P cfg (⟨some d,.extq (.lookup t m k false) ty [.mp kt vt,q] [m,k],none⟩::l) K E xr σ:=by
 obtain⟨hc,he⟩:=argO_eq h
 have hog:=argO_none h
 subst hog
 subst hb
 constructor
 simp only[vcX,vcG,vcO,he hps rfl]
 refine(OpS_lk hp hl hf).mono fun y s ⟨e1,e2⟩=> ?_
 subst e1 e2
 exact kk.h
theorem VX_callc{f:FuncId}{r:AV}{fo:Operand}{a c:List AV}(h:argO xr g (fo::args)=some (og,.cl f a c::as,ps))(hcl:callable P f=true)(hp:og.getD true=true→Pure P f (a++as++c) r)(hps:OB ps)(k:VX P cfg l K E (putX og d r xr) σ):
  VX P cfg (⟨some d,.callv fo args,g⟩::l) K E xr σ:=by
 obtain⟨hc,he⟩:=argO_eq h
 refine VX_gen hc (fun hg=> ?_) (fun hg=> ?_)
 ·have:=he hps hg
  simp only[evs,List.cons.injEq]at this
  simp only[vcO,this.1,this.2]
  refine⟨hcl,callP_pure (hp hg) ?_⟩
  rw[← putX_t hg];exact k.h
 ·rw[← putX_f hg (v:=r)];exact k.h
theorem VY_callc{f:FuncId}{r:AV}{fo:Operand}{a c:List AV}(h:argO xr g (fo::args)=some (og,.cl f a c::as,ps))(hcl:callable P f=true)(hp:og.getD true=true→Pure P f (a++as++c) r)(hps:OB ps)(k:VY P cfg als ld K (putX og d r xr) σ):
  VY P cfg als (⟨ix,⟨some d,.callv fo args,g⟩,cf⟩::ld) K xr σ:=by
 obtain⟨hc,he⟩:=argO_eq h
 refine VY_gen hc (fun hg=> ?_) (fun hg=> ?_)
 ·have:=he hps hg
  simp only[evs,List.cons.injEq]at this
  simp only[vcOD,IOp.cls,vcOQ,this.1,this.2]
  refine⟨hcl,r,hp hg,?_⟩
  have:=k.h;rw[putX_t hg]at this;exact this
 ·rw[← putX_f hg (v:=r)];exact k.h
end
end Go.Sx
namespace Go.Sx
def callO(P:Program)[Glob P](xr:XR)(g:Option (Nat×Bool)):IOp→Option (Option Bool×FuncId×List AV×List Prop)
 | .call f args=>match argO xr g args with
  |some (og,xs,ps)=>some (og,f,xs,ps)
  |none=>none
 | .callv fo args=>match argO xr g (fo::args)with
  |some (og,.v (.func (.func f) a c)::xs,ps)=>if callable P f=true then some (og,f,a.toList.map .v++xs++c.toList.map .v,ps)else none
  |some (og,.cl f a c::xs,ps)=>if callable P f=true then some (og,f,a++xs++c,ps)else none
  |_=>none
 |_=>none
section
variable {P:Program}[Glob P]{cfg:Nat→Nat}{K:Regs→Store→Prop}{E:List PanicEntry→Store→Prop}{σ:Store}{l:List CI}{d:Nat}{xr:XR}{ps:List Prop}{g:Option (Nat×Bool)}{og:Option Bool}{op:IOp}{f:FuncId}{xs:List AV}{r:AV}
theorem VX_any(h:callO P xr g op=some (og,f,xs,ps))(hp:og.getD true=true→Pure P f xs r)(hps:OB ps)(k:VX P cfg l K E (putX og d r xr) σ):VX P cfg (⟨some d,op,g⟩::l) K E xr σ:=by
 unfold callO at h
 split at h
 ·split at h
  ·rename_i e
   simp only[Option.some.injEq,Prod.mk.injEq]at h
   obtain⟨rfl,rfl,rfl,rfl⟩:=h
   exact VX_call e hp hps k
  ·cases h
 ·split at h
  ·rename_i e
   split at h
   ·rename_i hcl
    simp only[Option.some.injEq,Prod.mk.injEq]at h
    obtain⟨rfl,rfl,rfl,rfl⟩:=h
    exact VX_callv e rfl hcl hp hps k
   ·cases h
  ·rename_i e
   split at h
   ·rename_i hcl
    simp only[Option.some.injEq,Prod.mk.injEq]at h
    obtain⟨rfl,rfl,rfl,rfl⟩:=h
    exact VX_callc e hcl hp hps k
   ·cases h
  ·cases h
 ·cases h
end
section
variable {P:Program}[Glob P]{cfg:Nat→Nat}{K:Regs→Store→Prop}{σ:Store}{d:Nat}{xr:XR}{ps:List Prop}{g:Option (Nat×Bool)}{og:Option Bool}{op:IOp}{f:FuncId}{xs:List AV}{r:AV}{als cf:List Nat}{ix:Nat}{ld:List CD}
theorem VY_any(h:callO P xr g op=some (og,f,xs,ps))(hp:og.getD true=true→Pure P f xs r)(hps:OB ps)(k:VY P cfg als ld K (putX og d r xr) σ):VY P cfg als (⟨ix,⟨some d,op,g⟩,cf⟩::ld) K xr σ:=by
 unfold callO at h
 split at h
 ·split at h
  ·rename_i e
   simp only[Option.some.injEq,Prod.mk.injEq]at h
   obtain⟨rfl,rfl,rfl,rfl⟩:=h
   exact VY_call e hp hps k
  ·cases h
 ·split at h
  ·rename_i e
   split at h
   ·rename_i hcl
    simp only[Option.some.injEq,Prod.mk.injEq]at h
    obtain⟨rfl,rfl,rfl,rfl⟩:=h
    exact VY_callv e rfl hcl hp hps k
   ·cases h
  ·rename_i e
   split at h
   ·rename_i hcl
    simp only[Option.some.injEq,Prod.mk.injEq]at h
    obtain⟨rfl,rfl,rfl,rfl⟩:=h
    exact VY_callc e hcl hp hps k
   ·cases h
  ·cases h
 ·cases h
end
theorem BL:(∀ (p:Prop) [Decidable p],(decide p=true)=p)∧(∀ (p:Prop) [Decidable p],(decide p=false)=¬p)∧((!true)=false)∧((!false)=true)∧(∀ b:Bool,((!b)=true)=(b=false))∧(∀ b:Bool,((!b)=false)=(b=true))
  ∧(∀ a b:Bool,((a && b)=true)=(a=true∧b=true))∧(∀ a b:Bool,((a || b)=true)=(a=true∨b=true))∧(∀ a b:Bool,((a && b)=false)=(a=false∨b=false))∧(∀ a b:Bool,((a || b)=false)=(a=false∧b=false))
  ∧(∀ b:Bool,(true && b)=b)∧(∀ b:Bool,(b && true)=b)∧(∀ b:Bool,(false || b)=b)∧(∀ b:Bool,(b || false)=b)∧(∀ p:Prop,(True→p)=p)∧(∀ n:Nat,(n:Int).toNat=n)∧(0:Int).toNat=0∧(1:Int).toNat=1
  ∧(∀ b:Bool,(b ^^ true)= !b)∧(∀ b:Bool,(b ^^ false)=b)
  ∧(∀ {α:Type} (a b:α),(a≠b)=¬(a=b))∧(∀ {α:Type} (a:α),(a=a)=True)∧(∀ {α:Type} (a b:α),(some a).getD b=a)∧(∀ {α:Type} (b:α),(none:Option α).getD b=b)∧(∀ (α:Type) [Nonempty α] (p:Prop),(α→p)=p):=by
 refine⟨fun p _=>by simp,fun p _=>by simp,rfl,rfl,?_,?_,?_,?_,?_,?_,?_,?_,?_,?_,fun p=>by simp,fun n=>by simp,rfl,rfl,?_,?_,fun a b=>by simp,fun a=>by simp,fun a b=>rfl,fun b=>rfl,fun α _ p=>by simp⟩<;>decide
theorem OB.r1{p:Prop}{ps:List Prop}(h:p)(t:OB ps):OB (p::ps):= .cons h t
abbrev q0(d:Nat)(o:IOp):CI:=⟨some d,o,none⟩
abbrev q1(d:Nat)(o:IOp)(t:Nat)(b:Bool):CI:=⟨some d,o,some (t,b)⟩
abbrev ki(n:Int):Operand:= .const (.int .i64 n)
abbrev ks(s:ByteArray):Operand:= .const (.string s)
abbrev kT:Operand:= .const (.bool true)
abbrev kF:Operand:= .const (.bool false)
theorem kf{x:Bool}{p:Prop}(h:x=false)(k:x=true):p:=by rw[h]at k;cases k
theorem kt{x:Bool}{p:Prop}(h:x=true)(k:x=false):p:=by rw[h]at k;cases k
theorem tF{p:Prop}(h:true=false):p:=nomatch h
theorem fT{p:Prop}(h:false=true):p:=nomatch h
section
theorem OB.k0{α:Type}{a:α}{ps:List Prop}(t:OB ps):OB ((a=a)::ps):=OB.rfl t
theorem OB.k1{ps:List Prop}(t:OB ps):OB (True::ps):=OB.tr t
theorem OB.k2{α:Type}{a:α}{c:Bool}{ps:List Prop}(t:OB ps):OB ((c=true→a=a)::ps):=OB.grfl t
theorem OB.k3{c:Bool}{ps:List Prop}(t:OB ps):OB ((c=true→True)::ps):=OB.gtr t
theorem OB.k4{a:Prop}{ps:List Prop}(t:OB ps):OB ((a→a)::ps):=OB.self t
theorem OB.k5{a b:Bool}{ps:List Prop}(t:OB ps):OB (((a && b)=true→a=true)::ps):=OB.and t
end
section
variable {P:Program}[Glob P]{N:Nat}{cfg:Nat→Nat}{Q:Exit→Regs→Store→Prop}{rg rg':Regs}{σ σ':Store}{l:List CI}{a b:AC}{k k':List Fr}{xr:XR}{als:List Nat}{ld:List CD}{ks:List Nat}{id:Nat}
theorem FK.k0(h:WK P N cfg Q b k rg σ):FK P N cfg Q .normal (.seq b::k) rg σ:=FK_seq h
theorem FK.k1(h:FK P N cfg Q .normal k rg σ):FK P N cfg Q .normal (.blk id::k) rg σ:=FK_blk h
theorem FK.k2{K:Regs→Store→Prop}(h:K rg σ):FK P N cfg Q .normal (.fn K::k) rg σ:=FK_fn h
theorem FK.k3(h:Q .normal rg σ):FK P N cfg Q .normal [] rg σ:=FK_nil h
theorem WK.k0(h:WK P N cfg Q a k rg' σ)(hk:filtO ks rg=some rg':=by exact rfl):WK P N cfg Q (.keep ks a) k rg σ:=WK_keep hk h
theorem WK.k1(h:WK P N cfg Q a (.seq b::k) rg σ):WK P N cfg Q (.seq a b) k rg σ:=WK_seq h
theorem WK.k2(h:VX P cfg l (FK P N cfg Q .normal k) (fun ch σ'=>FK P N cfg Q (.panic ch) k [] σ') xr σ)(hx:toXO rg=some xr:=by exact rfl):WK P N cfg Q (.reg l) k rg σ:=WK_reg hx h
theorem WK.k3(h:VY P cfg als ld (Cl (FK P N cfg Q .normal k)) xr σ)(hx:toXO rg=some xr:=by exact rfl):WK P N cfg Q (.mreg als ld) k rg σ:=WK_mreg hx h
theorem WK.k5(h:VY P cfg [] (bare l) (Cl (FK P N cfg Q .normal k)) xr σ)(hx:toXO rg=some xr:=by exact rfl):WK P N cfg Q (.dreg l) k rg σ:=WK_dreg hx h
theorem WK.k6(h:WK P N cfg Q a (.blk id::k) rg σ):WK P N cfg Q (.block id a) k rg σ:=WK_block h
theorem WK.k7(h:Q .ret rg σ):WK P N cfg Q .ret k rg σ:=WK_ret h
theorem WK.k8(h:FK P N cfg Q .normal k' rg σ)(hu:unw k id=some k':=by exact rfl):WK P N cfg Q (.exit id) k rg σ:=WK_exit hu h
theorem WK.k9(h:FK P N cfg Q .normal k rg σ):WK P N cfg Q .skip k rg σ:=WK_skip h
theorem WK.cd{x:Operand}{c:Bool}(h1:c=true→WK P N cfg Q a k rg σ)(h2:c=false→WK P N cfg Q b k rg σ)(hx:boolO rg x=some c:=by exact rfl):WK P N cfg Q (.cond x a b) k rg σ:=WK_cond hx h1 h2
end
section
variable {P:Program}[Glob P]{N:Nat}{cfg:Nat→Nat}{Q:Exit→Regs→Store→Prop}{rg:Regs}{σ:Store}{k:List Fr}{xr:XR}
theorem WK.k4{l l1 l2:List CI}{s:CI}(h:VY P cfg [] (bare l1) (MidO P cfg (FK P N cfg Q .normal k) s l2) xr σ)(hl:cls4 l=some (l1,s,l2):=by exact rfl)(hsp:spOK l l1.length=true:=by exact rfl)(hsg:s.g=none:=by exact rfl)(hx:toXO rg=some xr:=by exact rfl):WK P N cfg Q (.dreg l) k rg σ:=WK_dregO hl hsp hsg hx h
theorem VX.k0{K:Regs→Store→Prop}{E:List PanicEntry→Store→Prop}{l2:List CI}(h:VY P cfg [] (bare l2) (Cl K) xr σ):VX P cfg [] (MidK P cfg l2 K) E xr σ:=VX_nilY h
theorem VY.k0{K:Regs→Store→Prop}{s:CI}{l2:List CI}(h:VX P cfg [s] (MidK P cfg l2 K) (fun _ _=>False) xr σ):VY P cfg [] [] (MidO P cfg K s l2) xr σ:=VY_midO h
end
section
variable {P:Program}[Glob P]{N:Nat}{cfg:Nat→Nat}{Q:Exit→Regs→Store→Prop}{K:Regs→Store→Prop}{E:List PanicEntry→Store→Prop}{rg:Regs}{σ σ':Store}{l rest:List CI}{d:Nat}{op:IOp}{p:Prop}{v:AV}{xr xr':XR}{ps:List Prop}{c:CI}{als cf:List Nat}{ix:Nat}{ld restd:List CD}{cd:CD}{g:Option (Nat×Bool)}{og:Option Bool}{as:List AV}{args:List Operand}
theorem VX.k1(h:K (den xr) σ):VX P cfg [] K E xr σ:=VX_nil h
theorem VY.k1(h:K (den xr) σ):VY P cfg als [] (Cl K) xr σ:=VY_nil h
theorem VX.r1(hp:OB ps)(k:VX P cfg rest K E xr' σ')(_h0:stopC cfg c.op=false:=by exact rfl)(h:runL cfg (c::l) xr σ []=some (ps,xr',σ',rest):=by exact rfl):VX P cfg (c::l) K E xr σ:=VX_run _h0 h hp k
theorem VY.r1(hp:OB ps)(k:VY P cfg als restd K xr' σ')(_h0:stopC cfg cd.c.op=false:=by exact rfl)(h:runM cfg als (cd::ld) xr σ []=some (ps,xr',σ',restd):=by exact rfl):VY P cfg als (cd::ld) K xr σ:=VY_run _h0 h hp k
theorem VX.l1{t:TypeId}{z:Value}{cs:List AV}(k:∀ b,VX P cfg l K E ((d,.s (.lp d b 0))::xr) ((d,b,.cells cs)::σ))(h:foL (z.cells.toList.map .v) some=some cs:=by exact rfl):VX P cfg (⟨some d,.alloc t z,none⟩::l) K E xr σ:=VX_alloc h k
theorem VY.l1{t:TypeId}{z:Value}{cs:List AV}(k:∀ b,VY P cfg als ld K ((d,.s (.lp d b 0))::xr) ((d,b,.cells cs)::σ))(h:foL (z.cells.toList.map .v) some=some cs:=by exact rfl):VY P cfg als (⟨ix,⟨some d,.alloc t z,none⟩,cf⟩::ld) K xr σ:=VY_alloc h k
theorem VX.l2{t:TypeId}{esz:Nat}(k:∀ b,VX P cfg l K E ((d,.s (.own esz d b 0 0 []))::xr) ((d,b,.tail 0 0)::σ))(hc:cfg d=1:=by exact rfl)(he:0<esz:=by decide):VX P cfg (⟨some d,.mksl t esz [],none⟩::l) K E xr σ:=VX_mk0 hc he k
theorem VX.m1{t:TypeId}{x:Operand}{cs:List AV}(k:∀ b,VX P cfg l K E ((d,.s (.lp d b 0))::xr) ((d,b,.cells cs)::σ))(hps:OB ps)(h:argO xr none [x]=some (og,[v],ps):=by exact rfl)(hc:cellO v=some cs:=by exact rfl):VX P cfg (⟨some d,.box t x,none⟩::l) K E xr σ:=VX_box h hc hps k
theorem VY.m1{t:TypeId}{x:Operand}{cs:List AV}(k:∀ b,VY P cfg als ld K ((d,.s (.lp d b 0))::xr) ((d,b,.cells cs)::σ))(hps:OB ps)(h:argO xr none [x]=some (og,[v],ps):=by exact rfl)(hc:cellO v=some cs:=by exact rfl):VY P cfg als (⟨ix,⟨some d,.box t x,none⟩,cf⟩::ld) K xr σ:=VY_box h hc hps k
theorem VX.m2{α:Type}{f:α→List AV}{ls:List α}{e:Nat}{x:Operand}(k:(og.getD true=true→ls.length≤maxLen)→VX P cfg l K E (putX og d (.v (.int .i64 ls.length)) xr) σ)(hps:OB ps)(h:argO xr g [x]=some (og,[v],ps):=by exact rfl)(hx:rowsO v=some (e,ls.map f):=by exact rfl):VX P cfg (⟨some d,.len false x,g⟩::l) K E xr σ:=VX_len h hx hps k
theorem VX.m3{rows:List (List AV)}{e:Nat}{x:Operand}(k:(og.getD true=true→rows.length≤maxLen)→VX P cfg l K E (putX og d (.v (.int .i64 rows.length)) xr) σ)(hps:OB ps)(h:argO xr g [x]=some (og,[v],ps):=by exact rfl)(hx:rowsO v=some (e,rows):=by exact rfl):VX P cfg (⟨some d,.len false x,g⟩::l) K E xr σ:=VX_lenr h hx hps k
theorem VY.r2{α:Type}{f:α→List AV}{ls:List α}{e:Nat}{x:Operand}(hps:OB ps)(k:VY P cfg als ld K (putX og d (.v (.int .i64 ls.length)) xr) σ)(h:argO xr g [x]=some (og,[v],ps):=by exact rfl)(hx:rowsO v=some (e,ls.map f):=by exact rfl):VY P cfg als (⟨ix,⟨some d,.len false x,g⟩,cf⟩::ld) K xr σ:=VY_len h hx hps k
theorem VY.r3{rows:List (List AV)}{e:Nat}{x:Operand}(hps:OB ps)(k:VY P cfg als ld K (putX og d (.v (.int .i64 rows.length)) xr) σ)(h:argO xr g [x]=some (og,[v],ps):=by exact rfl)(hx:rowsO v=some (e,rows):=by exact rfl):VY P cfg als (⟨ix,⟨some d,.len false x,g⟩,cf⟩::ld) K xr σ:=VY_lenr h hx hps k
theorem VX.t1{α:Type}[Inhabited α]{f:α→List AV}{ls:List α}{e:Nat}{x i:Operand}{iv:AV}{n:Int}(hps:OB ps)(k:VX P cfg l K E (putX og d (.pc (f (ls.getD n.toNat default))) xr) σ)(hb:og.getD true=true→0≤n∧n<ls.length)(h:argO xr g [x,i]=some (og,[v,iv],ps):=by exact rfl)(hi:intO iv=some n:=by exact rfl)(hx:rowsO v=some (e,ls.map f):=by exact rfl):VX P cfg (⟨some d,.iaddr e x i,g⟩::l) K E xr σ:=VX_iad h hi hx hps k hb
theorem VY.t1{α:Type}[Inhabited α]{f:α→List AV}{ls:List α}{e:Nat}{x i:Operand}{iv:AV}{n:Int}(hps:OB ps)(k:VY P cfg als ld K (putX og d (.pc (f (ls.getD n.toNat default))) xr) σ)(hb:og.getD true=true→0≤n∧n<ls.length)(h:argO xr g [x,i]=some (og,[v,iv],ps):=by exact rfl)(hi:intO iv=some n:=by exact rfl)(hx:rowsO v=some (e,ls.map f):=by exact rfl):VY P cfg als (⟨ix,⟨some d,.iaddr e x i,g⟩,cf⟩::ld) K xr σ:=VY_iad h hi hx hps k hb
theorem VX.u1{t:TypeId}{esz bytes:Nat}{z:List Value}{x y:Operand}{w:AV}{rows:List (List AV)}(hps:OB ps)(hn:rows≠[])(hb:rows.length * bytes≤35184372088832)(k:∀ b u c,VX P cfg l K E ((d,.s (.own esz d b u c rows))::xr) ((d,b,.tail u c)::σ))(h:argO xr none [x,y]=some (og,[.v (.slice none 0 0),w],ps):=by exact rfl)(hw:rowsV esz w=some rows:=by exact rfl):VX P cfg (⟨some d,.append t esz bytes z x y,none⟩::l) K E xr σ:=VX_app0 h hw hps hn hb k
theorem VX.u2{t:TypeId}{esz bytes tg b u c:Nat}{z:List Value}{x y:Operand}{w:AV}{rows rows':List (List AV)}(hps:OB ps)(hb:(rows.length+rows'.length) * bytes≤35184372088832)(h1:rows'.all (fun r=>r.all AV.one)=true)(k:∀ b' u' c',VX P cfg l K E ((d,.s (.own esz tg b' u' c' (rows++rows')))::xr) (upt σ tg b' (.tail u' c')))(h:argO xr none [x,y]=some (og,[.own esz tg b u c rows,w],ps):=by exact rfl)(hw:rowsV esz w=some rows':=by exact rfl)(hl:lkt σ tg=some (b,.tail u c):=by exact rfl):VX P cfg (⟨some d,.append t esz bytes z x y,none⟩::l) K E xr σ:=VX_app h hw hl hps hb h1 k
theorem VX.u3{t:TypeId}{esz bytes:Nat}{z:List Value}{x y:Operand}{w:AV}{rows rows':List (List AV)}(hps:OB ps)(hb:(rows.length+rows'.length) * bytes≤35184372088832)(k0:rows'=[]→VX P cfg l K E ((d,.s (.fl esz rows))::xr) σ)(k:rows'≠[]→∀ b u c,VX P cfg l K E ((d,.s (.own esz d b u c (rows++rows')))::xr) ((d,b,.tail u c)::σ))(h:argO xr none [x,y]=some (og,[.fl esz rows,w],ps):=by exact rfl)(hw:rowsV esz w=some rows':=by exact rfl):VX P cfg (⟨some d,.append t esz bytes z x y,none⟩::l) K E xr σ:=VX_appf h hw hps hb k0 k
theorem VY.u1{t:TypeId}{esz bytes:Nat}{z:List Value}{x y:Operand}{w:AV}{rows:List (List AV)}(hps:OB ps)(hn:rows≠[])(hb:rows.length * bytes≤35184372088832)(k:∀ b u c,VY P cfg als ld K ((d,.s (.own esz d b u c rows))::xr) ((d,b,.tail u c)::σ))(h:argO xr none [x,y]=some (og,[.v (.slice none 0 0),w],ps):=by exact rfl)(hw:rowsV esz w=some rows:=by exact rfl)(hl:als.elem d=true:=by exact rfl):VY P cfg als (⟨ix,⟨some d,.append t esz bytes z x y,none⟩,cf⟩::ld) K xr σ:=VY_app0 h hw hl hps hn hb k
theorem VY.u2{t:TypeId}{esz bytes tg b u c:Nat}{z:List Value}{x y:Operand}{w:AV}{rows rows':List (List AV)}(hps:OB ps)(hb:(rows.length+rows'.length) * bytes≤35184372088832)(h1:rows'.all (fun r=>r.all AV.one)=true)(k:∀ b' u' c',VY P cfg als ld K ((d,.s (.own esz tg b' u' c' (rows++rows')))::xr) (upt σ tg b' (.tail u' c')))(h:argO xr none [x,y]=some (og,[.own esz tg b u c rows,w],ps):=by exact rfl)(hw:rowsV esz w=some rows':=by exact rfl)(hl:lkt σ tg=some (b,.tail u c):=by exact rfl)(ha:als.elem d=true:=by exact rfl):VY P cfg als (⟨ix,⟨some d,.append t esz bytes z x y,none⟩,cf⟩::ld) K xr σ:=VY_app h hw hl ha hps hb h1 k
theorem VY.u3{t:TypeId}{esz bytes:Nat}{z:List Value}{x y:Operand}{w:AV}{rows rows':List (List AV)}(hps:OB ps)(hb:(rows.length+rows'.length) * bytes≤35184372088832)(k0:rows'=[]→VY P cfg als ld K ((d,.s (.fl esz rows))::xr) σ)(k:rows'≠[]→∀ b u c,VY P cfg als ld K ((d,.s (.own esz d b u c (rows++rows')))::xr) ((d,b,.tail u c)::σ))(h:argO xr none [x,y]=some (og,[.fl esz rows,w],ps):=by exact rfl)(hw:rowsV esz w=some rows':=by exact rfl)(ha:als.elem d=true:=by exact rfl):VY P cfg als (⟨ix,⟨some d,.append t esz bytes z x y,none⟩,cf⟩::ld) K xr σ:=VY_appf h hw ha hps hb k0 k
theorem VX.r8(hp:OB ps)(k:VX P cfg l K E xr' σ')(h:stepX cfg (fun _ _=>true) c xr σ [] (fun ps xr σ=>some (ps,xr,σ))=some (ps,xr',σ'):=by exact rfl):VX P cfg (c::l) K E xr σ:=VX_det h hp k
theorem VY.r8(hp:OB ps)(k:VY P cfg als ld K xr' σ')(h:stepX cfg (okX als cd.cf) cd.c xr σ [] (fun ps xr σ=>some (ps,xr,σ))=some (ps,xr',σ'):=by exact rfl):VY P cfg als (cd::ld) K xr σ:=VY_det h hp k
end
section
variable {P:Program}[Glob P]{N:Nat}{cfg:Nat→Nat}{Q:Exit→Regs→Store→Prop}{K:Regs→Store→Prop}{E:List PanicEntry→Store→Prop}{rg:Regs}{σ σ':Store}{l:List CI}{d:Nat}{v:AV}{xr xr':XR}{ps:List Prop}{als cf:List Nat}{ix:Nat}{ld:List CD}{g:Option (Nat×Bool)}{og:Option Bool}{as:List AV}{args:List Operand}{op:Op}{ty:TypeId}{ti:List TI}
theorem VX.l3{t:TypeId}(k:∀ b,VX P cfg l K E ((d,.s (.mpt d b))::xr) ((d,b,.map [] 0)::σ)):VX P cfg (⟨some d,.exts (.makeMap t none) ty ti [],none⟩::l) K E xr σ:=VX_mkmap k
theorem VX.t5{x i:Operand}{s:ByteArray}{iv:AV}{n:Int}(hps:OB ps)(hb:og.getD true=true→0≤n∧n<s.size)(k:VX P cfg l K E (putX og d (.v (.int .u8 (byteAt s n.toNat).toNat)) xr) σ)(h:argO xr g [x,i]=some (og,[.v (.string s),iv],ps):=by exact rfl)(hi:intO iv=some n:=by exact rfl):VX P cfg (⟨some d,.idxs x i,g⟩::l) K E xr σ:=VX_idx h hi hps hb k
theorem VY.t5{x i:Operand}{s:ByteArray}{iv:AV}{n:Int}(hps:OB ps)(hb:og.getD true=true→0≤n∧n<s.size)(k:VY P cfg als ld K (putX og d (.v (.int .u8 (byteAt s n.toNat).toNat)) xr) σ)(h:argO xr g [x,i]=some (og,[.v (.string s),iv],ps):=by exact rfl)(hi:intO iv=some n:=by exact rfl):VY P cfg als (⟨ix,⟨some d,.idxs x i,g⟩,cf⟩::ld) K xr σ:=VY_idx h hi hps hb k
theorem VX.t6{t:TypeId}{x:Operand}{lo hi:Option Operand}{s:ByteArray}{a b:Int}(hps:OB ps)(hb:og.getD true=true→0≤a∧a≤b∧b≤s.size)(k:VX P cfg l K E (putX og d (.v (.string (s.extract a.toNat b.toNat))) xr) σ)(h:argO xr g args=some (og,as,ps):=by exact rfl)(he:args=x::(lo.toList++hi.toList):=by exact rfl)(hs:slsO lo hi as=some (s,a,b):=by exact rfl):VX P cfg (⟨some d,.extq (.slice t x lo hi none) ty [.str] args,g⟩::l) K E xr σ:=VX_sls h he hs hps hb k
theorem VY.t6{t:TypeId}{x:Operand}{lo hi:Option Operand}{s:ByteArray}{a b:Int}(hps:OB ps)(hb:og.getD true=true→0≤a∧a≤b∧b≤s.size)(k:VY P cfg als ld K (putX og d (.v (.string (s.extract a.toNat b.toNat))) xr) σ)(h:argO xr g args=some (og,as,ps):=by exact rfl)(he:args=x::(lo.toList++hi.toList):=by exact rfl)(hs:slsO lo hi as=some (s,a,b):=by exact rfl):VY P cfg als (⟨ix,⟨some d,.extq (.slice t x lo hi none) ty [.str] args,g⟩,cf⟩::ld) K xr σ:=VY_sls h he hs hps hb k
theorem VX.t7{src dst e:TypeId}{x:Operand}{q:TI}{s:ByteArray}(hps:OB ps)(hb:og.getD true=true→s.size≤9223372036854775806)(k:VX P cfg l K E (putX og d (.sl true 1 (s.data.toList.map byteRow)) xr) σ)(h:argO xr g [x]=some (og,[.v (.string s)],ps):=by exact rfl):VX P cfg (⟨some d,.extq (.convert src dst x) ty [.str,q,.sl e,.int .u8] [x],g⟩::l) K E xr σ:=VX_cvsb h hps hb k
theorem VY.t7{src dst e:TypeId}{x:Operand}{q:TI}{s:ByteArray}(hps:OB ps)(hb:og.getD true=true→s.size≤9223372036854775806)(k:VY P cfg als ld K (putX og d (.sl true 1 (s.data.toList.map byteRow)) xr) σ)(h:argO xr g [x]=some (og,[.v (.string s)],ps):=by exact rfl):VY P cfg als (⟨ix,⟨some d,.extq (.convert src dst x) ty [.str,q,.sl e,.int .u8] [x],g⟩,cf⟩::ld) K xr σ:=VY_cvsb h hps hb k
theorem VX.r4{src dst e:TypeId}{x:Operand}{q:TI}{rows:List (List AV)}{ns:List Int}(hps:OB ps)(k:VX P cfg l K E (putX og d (.v (.string (bytesI ns))) xr) σ)(h:argO xr g [x]=some (og,[v],ps):=by exact rfl)(hv:rowsV 1 v=some rows:=by exact rfl)(hn:noStr v=true:=by exact rfl)(hu:u8s rows=some ns:=by exact rfl):VX P cfg (⟨some d,.extq (.convert src dst x) ty [.sl e,.int .u8,.str,q] [x],g⟩::l) K E xr σ:=VX_cvbs h hv hn hu hps k
theorem VY.r4{src dst e:TypeId}{x:Operand}{q:TI}{rows:List (List AV)}{ns:List Int}(hps:OB ps)(k:VY P cfg als ld K (putX og d (.v (.string (bytesI ns))) xr) σ)(h:argO xr g [x]=some (og,[v],ps):=by exact rfl)(hv:rowsV 1 v=some rows:=by exact rfl)(hn:noStr v=true:=by exact rfl)(hu:u8s rows=some ns:=by exact rfl):VY P cfg als (⟨ix,⟨some d,.extq (.convert src dst x) ty [.sl e,.int .u8,.str,q] [x],g⟩,cf⟩::ld) K xr σ:=VY_cvbs h hv hn hu hps k
theorem VX.r5{src dst e:TypeId}{x:Operand}{q:TI}{ls:List UInt8}(hps:OB ps)(k:VX P cfg l K E (putX og d (.v (.string ⟨ls.toArray⟩)) xr) σ)(h:argO xr g [x]=some (og,[v],ps):=by exact rfl)(hv:rowsV 1 v=some (ls.map byteRow):=by exact rfl)(hn:noStr v=true:=by exact rfl):VX P cfg (⟨some d,.extq (.convert src dst x) ty [.sl e,.int .u8,.str,q] [x],g⟩::l) K E xr σ:=VX_cvbm h hv hn hps k
theorem VY.r5{src dst e:TypeId}{x:Operand}{q:TI}{ls:List UInt8}(hps:OB ps)(k:VY P cfg als ld K (putX og d (.v (.string ⟨ls.toArray⟩)) xr) σ)(h:argO xr g [x]=some (og,[v],ps):=by exact rfl)(hv:rowsV 1 v=some (ls.map byteRow):=by exact rfl)(hn:noStr v=true:=by exact rfl):VY P cfg als (⟨ix,⟨some d,.extq (.convert src dst x) ty [.sl e,.int .u8,.str,q] [x],g⟩,cf⟩::ld) K xr σ:=VY_cvbm h hv hn hps k
theorem VX.r6{t kt vt:TypeId}{q:TI}{kd:TypeDesc}{m k x:Operand}{tg b b' clk:Nat}{es:List (Value×Nat×AV)}{key:Value}(hps:OB ps)(kk:VX P cfg l K E xr σ')(h:argO xr none [m,k,x]=some (og,[.mpt tg b,.v key,v],ps):=by exact rfl)(hp:plainK q=some kd:=by exact rfl)(hl:lkt σ tg=some (b',.map es clk):=by exact rfl)(hb:b=b':=by exact rfl)(hf:findA kd key es=some none:=by exact rfl)(hu:updS σ tg b (.map (es++[(key,clk,v)]) (clk+1))=some σ':=by exact rfl):VX P cfg (⟨none,.exts (.insert t m k x) ty [.mp kt vt,q] [m,k,x],none⟩::l) K E xr σ:=VX_ins h hp hl hb hf hu hps kk
theorem VX.r7{t kt vt:TypeId}{q:TI}{kd:TypeDesc}{m k:Operand}{tg b b' clk:Nat}{es:List (Value×Nat×AV)}{key:Value}(hps:OB ps)(kk:VX P cfg l K E ((d,.s v)::xr) σ)(h:argO xr none [m,k]=some (og,[.mpt tg b,.v key],ps):=by exact rfl)(hp:plainK q=some kd:=by exact rfl)(hl:lkt σ tg=some (b',.map es clk):=by exact rfl)(hb:b=b':=by exact rfl)(hf:findA kd key es=some (some v):=by exact rfl):VX P cfg (⟨some d,.extq (.lookup t m k false) ty [.mp kt vt,q] [m,k],none⟩::l) K E xr σ:=VX_lk h hp hl hb hf hps kk
end
section
variable {P:Program}[Glob P]{cfg:Nat→Nat}{K:Regs→Store→Prop}{E:List PanicEntry→Store→Prop}{σ:Store}{l:List CI}{d:Nat}{v:AV}{xr:XR}{ps:List Prop}{g:Option (Nat×Bool)}{og:Option Bool}
theorem VX.t2{α:Type}{f:α→List AV}{ls:List α}{e:Nat}{nn:Bool}{x y:Operand}{hv:AV}{h:Int}(hps:OB ps)(hb:og.getD true=true→0≤h∧h≤ls.length)(k:VX P cfg l K E (putX og d (.sl nn e ((ls.take h.toNat).map f)) xr) σ)(ha:argO xr g [x,y]=some (og,[v,hv],ps):=by exact rfl)(hi:intO hv=some h:=by exact rfl)(hx:slO v=some (nn,e,ls.map f):=by exact rfl):VX P cfg (⟨some d,.slice e x none (some y),g⟩::l) K E xr σ:=VX_slh ha hi hx hps hb k
theorem VX.t3{α:Type}{f:α→List AV}{ls:List α}{e:Nat}{nn:Bool}{x y:Operand}{hv:AV}{h:Int}(hps:OB ps)(hb:og.getD true=true→0≤h∧h≤ls.length)(k:VX P cfg l K E (putX og d (.sl nn e ((ls.drop h.toNat).map f)) xr) σ)(ha:argO xr g [x,y]=some (og,[v,hv],ps):=by exact rfl)(hi:intO hv=some h:=by exact rfl)(hx:slO v=some (nn,e,ls.map f):=by exact rfl):VX P cfg (⟨some d,.slice e x (some y) none,g⟩::l) K E xr σ:=VX_sll ha hi hx hps hb k
theorem VX.t4{α:Type}{f:α→List AV}{ls:List α}{e:Nat}{nn:Bool}{x y z:Operand}{lv hv:AV}{lo h:Int}(hps:OB ps)(hb:og.getD true=true→0≤lo∧lo≤h∧h≤ls.length)(k:VX P cfg l K E (putX og d (.sl nn e (((ls.take h.toNat).drop lo.toNat).map f)) xr) σ)(ha:argO xr g [x,y,z]=some (og,[v,lv,hv],ps):=by exact rfl)(hl:intO lv=some lo:=by exact rfl)(hi:intO hv=some h:=by exact rfl)(hx:slO v=some (nn,e,ls.map f):=by exact rfl):VX P cfg (⟨some d,.slice e x (some y) (some z),g⟩::l) K E xr σ:=VX_slb ha hl hi hx hps hb k
theorem LoopW.k0{I:Nat→Regs→Store→Prop}{n:Nat}{ks:List Nat}{rg rg1:Regs}{σ:Store}(h:∃ n',n'<n∧∃ rg' σ',WkRL rg1 rg'∧Sub σ' σ∧I n' rg' σ')(hk:filtO ks rg=some rg1:=by exact rfl):LoopW I n ks rg σ:=LoopW.intro hk h
end
section
variable {P:Program}[Glob P]{N:Nat}{cfg:Nat→Nat}{K:Regs→Store→Prop}{E:List PanicEntry→Store→Prop}{σ:Store}{l:List CI}{d n:Nat}{v y:AV}{xr:XR}{ps:List Prop}{g:Option (Nat×Bool)}{og:Option Bool}{als cf:List Nat}{ix:Nat}{ld:List CD}{t b b' o:Nat}{cs cs' ys l':List AV}{x z:Operand}
theorem VX.r9{gv:Nat}(hps:OB ps)(k:VX P cfg l K E (putX og d y xr) σ)(h:argO xr g [x]=some (og,[.v (.pointer (some ⟨gv,0,none⟩))],ps):=by exact rfl)(hl:Glob.av P gv=some cs:=by exact rfl)(hy:cs[0]? =some y:=by exact rfl):VX P cfg (⟨some d,.load false n x,g⟩::l) K E xr σ:=VX_gl1 h hl hy hps k
theorem VY.r9{gv:Nat}(hps:OB ps)(k:VY P cfg als ld K (putX og d y xr) σ)(h:argO xr g [x]=some (og,[.v (.pointer (some ⟨gv,0,none⟩))],ps):=by exact rfl)(hl:Glob.av P gv=some cs:=by exact rfl)(hy:cs[0]? =some y:=by exact rfl)(hok:okX als cf xr (.load false n x)=true:=by exact rfl):VY P cfg als (⟨ix,⟨some d,.load false n x,g⟩,cf⟩::ld) K xr σ:=VY_gl1 h hl hy hok hps k
theorem VX.ra{gv:Nat}(hps:OB ps)(k:VX P cfg l K E (putX og d (.agg ys) xr) σ)(h:argO xr g [x]=some (og,[.v (.pointer (some ⟨gv,0,none⟩))],ps):=by exact rfl)(hl:Glob.av P gv=some cs:=by exact rfl)(hy:cs.take n=ys∧n≤cs.length:=by exact⟨rfl,by decide⟩):VX P cfg (⟨some d,.load true n x,g⟩::l) K E xr σ:=VX_gla h hl hy hps k
theorem VY.ra{gv:Nat}(hps:OB ps)(k:VY P cfg als ld K (putX og d (.agg ys) xr) σ)(h:argO xr g [x]=some (og,[.v (.pointer (some ⟨gv,0,none⟩))],ps):=by exact rfl)(hl:Glob.av P gv=some cs:=by exact rfl)(hy:cs.take n=ys∧n≤cs.length:=by exact⟨rfl,by decide⟩)(hok:okX als cf xr (.load true n x)=true:=by exact rfl):VY P cfg als (⟨ix,⟨some d,.load true n x,g⟩,cf⟩::ld) K xr σ:=VY_gla h hl hy hok hps k
end
section
variable {P:Program}[Glob P]{cfg:Nat→Nat}{K:Regs→Store→Prop}{E:List PanicEntry→Store→Prop}{σ:Store}{l:List CI}{d:Nat}{xr:XR}{ps:List Prop}{g:Option (Nat×Bool)}{og:Option Bool}{op:IOp}{f:FuncId}{xs:List AV}{r:AV}
theorem VX.an(h:callO P xr g op=some (og,f,xs,ps))(hp:og.getD true=true→Pure P f xs r)(hps:OB ps)(k:VX P cfg l K E (putX og d r xr) σ):VX P cfg (⟨some d,op,g⟩::l) K E xr σ:=VX_any h hp hps k
end
section
variable {P:Program}[Glob P]{cfg:Nat→Nat}{K:Regs→Store→Prop}{σ:Store}{d:Nat}{xr:XR}{ps:List Prop}{g:Option (Nat×Bool)}{og:Option Bool}{op:IOp}{f:FuncId}{xs:List AV}{r:AV}{als cf:List Nat}{ix:Nat}{ld:List CD}
theorem VY.an(h:callO P xr g op=some (og,f,xs,ps))(hp:og.getD true=true→Pure P f xs r)(hps:OB ps)(k:VY P cfg als ld K (putX og d r xr) σ):VY P cfg als (⟨ix,⟨some d,op,g⟩,cf⟩::ld) K xr σ:=VY_any h hp hps k
end
section
variable {α:Type}
theorem retQ.r1{rg:Regs}{σ:Store}{v:AV}{ps:List Prop}{res:List RC}{R:Res→Store→Prop}(hp:OB ps)(h:R (.ret v) σ)(e:resK rg σ res=some (ps,v):=by exact rfl):retQ res R .ret rg σ:=retQk_r e hp h
theorem retQ.r2{rg:Regs}{σ:Store}{v:AV}{ps:List Prop}{res:List RC}{R:Res→Store→Prop}(hp:OB ps)(h:R (.ret v) σ)(e:resK rg σ res=some (ps,v):=by exact rfl):retQ res R .normal rg σ:=retQk_n e hp h
theorem pureQ.r1{rg:Regs}{σ σ0:Store}{v r:AV}{ps:List Prop}{res:List RC}(hp:OB ps)(h:Fin σ0 r v σ)(e:resK rg σ res=some (ps,v):=by exact rfl):pureQ res r σ0 .ret rg σ:=pureQk_r e hp h
theorem pureQ.r2{rg:Regs}{σ σ0:Store}{v r:AV}{ps:List Prop}{res:List RC}(hp:OB ps)(h:Fin σ0 r v σ)(e:resK rg σ res=some (ps,v):=by exact rfl):pureQ res r σ0 .normal rg σ:=pureQk_n e hp h
end
theorem Zs{σ σ':Store}(h:Sub σ σ':=by repeat' first|exact .refl _|refine .same ?_|refine .cons ?_):Sub σ σ':=h
theorem Zr{a b:Regs}(h:WkRL a b:=by repeat' first|exact .row|exact .refl _|exact .nil|refine .cons ?_ ?_|refine .tup ?_|refine .agg ?_|exact .sl|exact .own _|exact .tag):WkRL a b:=h
theorem Zw{σ0 σ:Store}{r x:AV}(h:Sub σ0 σ:=by repeat' first|exact .refl _|refine .same ?_|refine .cons ?_)(w:Wk x r:=by repeat' first|exact .refl _|exact .nil|refine .cons ?_ ?_|refine .tup ?_|refine .agg ?_|exact .sl|exact .own _):Fin σ0 r x σ:=⟨w,h⟩
theorem Zo{p q:Prop}(h:p→q:=by intro hob;first|(simp_all;done)|(simp only[BL]at *;first|(simp_all;done)|omega)):p→q:=h
end Go.Sx
