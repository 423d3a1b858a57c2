/- The layer: slices made, slices laid for good; a slice of one's own whose rows are weakened. -/
import Derived.Test.YtekngilbecjkhaaGreatDoorFb
import Derived.Laws.MakeOwn
set_option linter.unusedSimpArgs false
set_option linter.unusedVariables false
set_option linter.unusedSectionVars false
namespace Go.Sx
open Go.RowKit Go.Proofs
theorem Wk.ownrs{ez t t' b u c:Nat}{rows rows':List (List AV)}(h:WkLL rows rows'):Wk (.own ez t b u c rows) (.own ez t' b u c rows'):=fun M v hv=>by
 obtain⟨hl,hg⟩:=h.get
 cases hv with
 |own _ _ _ _ _ _ off cap cs hsz hM hR hc hm hu he=>
  rw[hl]
  refine .own _ _ _ _ _ _ off cap cs (fun i hi=> ?_) (fun k hk=>hM k (by rw[hl];exact hk)) (fun i hi j hj=> ?_) (by omega) hm (by rw[← hl];exact hu) he
  ·have:=(hg i (by omega) hi).get.1
   rw[← this];exact hsz i (by omega)
  ·have hgi:=(hg i (by omega) hi).get
   have:=hR i (by omega) j (by rw[hgi.1];exact hj)
   exact hgi.2 j (by rw[hgi.1];exact hj) hj M _ this
theorem WkLL.refl:∀ l:List (List AV),WkLL l l
 |[]=> .nil
 |x::l=> .cons (.refl x) (.refl l)
theorem WkLL.app{a b c d:List (List AV)}(h:WkLL a b)(k:WkLL c d):WkLL (a++c) (b++d):=by
 induction h with
 |nil=>exact k
 |cons h _ ih=>exact .cons h ih
section
variable {P:Program}[Glob P]{M:Mem}{w0 w:World}{σ:Store}
theorem OpS_mks(tag:Nat){t ty e:TypeId}{q:TI}{l c:Operand}{i:TypeInfo}{z z0:Value}{n:Nat}(hi:P.info? e=some i)(hz:i.zero=some z)(hz1:z.cells= #[z0])(hsz:i.size=1)(hn:i.bytes * n≤281474976710656)(h63:n≤maxLen):
  OpS P (.makeSlice t l c) ty [.sl e,q] [l,c] [.v (.int .i64 n),.v (.int .i64 n)] σ fun x σ'=>∃ b,x= .ms tag b 0 n n∧σ'=(tag,b,.cells (List.replicate n (.v z0)))::σ:=by
 intro hti M w0 w ρ hI hR
 simp only[opInfo,List.cons.injEq,and_true]at hti
 have ht:=tiOf_sl hti.1
 obtain⟨v1,vs1,e1,h1,hR1⟩:=hR.uncons
 obtain⟨v2,e2,h2⟩:=hR1.un1
 subst e2
 simp only[List.map_cons,List.map_nil,List.cons.injEq,and_true]at e1
 have g1:=h1.of_v
 have g2:=h2.of_v
 subst g1 g2
 have hb':(i.bytes:Int) * (n:Int)≤281474976710656:=by
  have h:((i.bytes * n:Nat):Int)≤281474976710656:=by omega
  rwa [Int.natCast_mul]at h
 have hr:=run_make (P:=P) w t e i z ht hi hz .i64 .i64 n n (by omega) (Int.le_refl _) hb' (by unfold maxLen at h63;omega)
 rw[hz1,hsz,Int.toNat_natCast,Nat.mul_one]at hr
 have hm:(madeCells #[z0] n).toList=List.replicate n z0:=by
  simp only[madeCells,Array.toList_map,Array.toList_range]
  refine List.ext_getElem (by simp) fun j h1 h2=> ?_
  simp[Nat.mod_one]
 refine⟨.value (.slice (some ⟨w.heap.size,0,none⟩) n n),w.alloc (.cells (madeCells #[z0] n) e),M,.ms tag w.heap.size 0 n n,_,_,?_,rfl,Mem.le.refl _,?_,.ms _ _ _ _ _,_,rfl,rfl⟩
 ·simp only[execOp,e1.1,e1.2,Sem.run_bind,hr,Result.andThen_ok]
  rfl
 ·have h':=hI.alloc (.cells (madeCells #[z0] n) e)
  refine⟨h'.os,h'.tape,h'.output,h'.size,h'.old,h'.imm,fun x he=> ?_,?_,h'.gl,h'.gw⟩
  ·rcases List.mem_cons.1 he with rfl|he
   ·refine⟨hI.size,hI.freshM,madeCells #[z0] n,e,heap_alloc_new _ _,?_⟩
    rw[hm]
    have:=RL.exact (M:=M) (List.replicate n z0)
    rwa [List.map_replicate]at this
   ·exact h'.st x he
  ·simp only[List.map_cons,List.nodup_cons]
   exact⟨hI.fresh,hI.nd⟩
theorem Inv.freeze{t b:Nat}{xs:List AV}(hI:Inv P M w0 ((t,b,.cells xs)::σ) w):∃ (M':Mem) (vs:List Value),M.le M'∧Inv P M' w0 σ w∧RL M' xs vs∧∀ k (h:k<vs.length),M' b k=some vs[k]:=by
 obtain⟨hsz,hn,cs,ty,hh,hR⟩:=hI.st _ (List.mem_cons_self)
 have hnd:=hI.nd
 simp only[List.map_cons,List.nodup_cons]at hnd
 let M':Mem:=fun b' o=>if b'=b then cs[o]? else M b' o
 have hle:M.le M':=fun b' o v h=>by
  have hne:b'≠b:=fun e=>by rw[e,hn o]at h;cases h
  simp[M',hne,h]
 refine⟨M',cs.toList,hle,⟨hI.os,hI.tape,hI.output,hI.size,hI.old,fun b' o v h=> ?_,fun e he=>⟨(hI.st e (List.mem_cons_of_mem _ he)).1,?_⟩,hnd.2,fun g l e=>(hI.gl g l e).mono hle,hI.gw⟩,hR.mono hle,fun k h=> ?_⟩
 ·by_cases e:b'=b
  ·subst e
   have h2:cs[o]? =some v:=by simpa[M']using h
   show w.cell? _=_
   simp[World.cell?,hh,h2]
  ·exact hI.imm b' o v (by simpa[M',e]using h)
 ·obtain⟨tg,b2,x⟩:=e
  have hk:=(hI.st _ (List.mem_cons_of_mem _ he)).2
  have hne:b2≠b:=fun e=>hnd.1 (e ▸ List.mem_map_of_mem (f:=fun x:Nat×Nat×Blk=>x.2.1) he)
  cases x with
  |cells l=>obtain⟨h1,cs',t',h2,h3⟩:=hk;exact⟨fun o=>by simp[M',hne,h1 o],cs',t',h2,h3.mono hle⟩
  |tail u' c=>obtain⟨h1,cs',t',h2,h3⟩:=hk;exact⟨fun o ho=>by simp[M',hne,h1 o ho],cs',t',h2,h3⟩
  |map es k=>obtain⟨h1,l,h2,h3,h4⟩:=hk;exact⟨fun o=>by simp[M',hne,h1 o],l,h2,h3,h4.mono hle⟩
 ·have h2:k<cs.size:=by simpa using h
  simp[M',h2]
theorem Spec.frz{f:FuncId}{ys xs:List AV}(h:Spec P f ys σ fun r σ'=>∃ t b,r= .ret (.ms t b 0 xs.length xs.length)∧Sub ((t,b,.cells xs)::σ) σ')(hl:xs.length≤maxLen):Spec P f ys σ fun r σ'=>r= .ret (.sl false 1 (xs.map fun x=>[x]))∧σ'=σ:=by
 intro M w0 w cs hI hR
 refine(h M w0 w cs hI hR).mono fun e w' ⟨M',r,σ',hM,hI',hr,t,b,e1,e2⟩=> ?_
 subst e1
 obtain⟨M2,vs,hM2,hI2,hR2,hc⟩:=(hI'.sub e2).freeze
 refine⟨M2,_,_,hM.trans hM2,hI2,?_,rfl,rfl⟩
 cases e with
 |returned v=>
  have hv:R M' (.ms t b 0 xs.length xs.length) v:=hr
  cases hv
  have key:R M2 (.sl false 1 (xs.map fun x=>[x])) (.slice (some ⟨b,0,none⟩) (xs.map fun x=>[x]).length xs.length):=by
   refine .sl _ _ _ b 0 _ (fun k=>vs.getD k default) (fun i hi=>by rw[List.getElem_map];rfl) (fun k hk=> ?_) (fun i hi j hj=> ?_) (by rw[List.length_map];exact Nat.le_refl _) hl
   ·have hk':k<vs.length:=by rw[← hR2.1];rw[List.length_map]at hk;omega
    rw[Nat.zero_add,hc k hk',List.getD_eq_getElem?_getD,List.getElem?_eq_getElem hk'];rfl
   ·have hi':i<xs.length:=by rw[List.length_map]at hi;exact hi
    have hj0:j=0:=by rw[List.getElem_map]at hj;simp at hj;omega
    subst hj0
    have hi2:i<vs.length:=by rw[← hR2.1];exact hi'
    have:=hR2.2 i hi' hi2
    simp only[List.getElem_map,List.getElem_cons_zero,Nat.mul_one,Nat.add_zero,List.getD_eq_getElem?_getD,List.getElem?_eq_getElem hi2,Option.getD_some]
    exact this
  rw[List.length_map]at key
  exact key
 |_=>exact hr.elim
end
section
variable {P:Program}[Glob P]{cfg:Nat→Nat}{K:Regs→Store→Prop}{E:List PanicEntry→Store→Prop}{σ:Store}{l:List CI}{d:Nat}{v:AV}{xr:XR}{ps:List Prop}{og:Option Bool}{ys:List AV}
theorem VX_mks{t e ty:TypeId}{q:TI}{lo co:Operand}{i:TypeInfo}{z z0:Value}{n:Nat}(h:argO xr none [lo,co]=some (og,[.v (.int .i64 n),.v (.int .i64 n)],ps))(hi:P.info? e=some i)(hz:i.zero=some z)(hz1:z.cells= #[z0])(hsz:i.size=1)(hps:OB ps)(hn:i.bytes * n≤281474976710656)(h63:n≤maxLen)
  (k:∀ b,VX P cfg l K E ((d,.s (.ms d b 0 n n))::xr) ((d,b,.cells (List.replicate n (.v z0)))::σ)):VX P cfg (⟨some d,.exts (.makeSlice t lo co) ty [.sl e,q] [lo,co],none⟩::l) K E xr σ:=by
 obtain⟨hc,he⟩:=argO_eq h
 have hog:=argO_none h
 subst hog
 constructor
 simp only[vcX,vcG,vcO,he hps rfl]
 refine(OpS_mks d hi hz hz1 hsz hn h63).mono fun x σ' ⟨b,e1,e2⟩=> ?_
 subst e1 e2
 exact(k b).h
end
end Go.Sx
set_option maxRecDepth 100000
set_option maxHeartbeats 4000000
namespace Go.Proofs.YtekngilbecjkhaaGreatDoor
open Go.Sx Go.Proofs Go.Tb
def Gr(lab:Nat)(rows:List (List AV))(x:AV)(τ:Store):Prop:=(rows=[]∧x=nilA∧τ=[])∨∃ b u c,x= .own 1 lab b u c rows∧τ=[(lab,b,.tail u c)]
theorem Gr.z{lab:Nat}:Gr lab [] nilA []:= .inl ⟨rfl,rfl,rfl⟩
theorem Gr.n{lab:Nat}{rows:List (List AV)}(h:rows=[]):Gr lab rows nilA []:= .inl ⟨h,rfl,rfl⟩
theorem Gr.s{lab b u c:Nat}{rows rows':List (List AV)}(h:rows'=rows):Gr lab rows (.own 1 lab b u c rows') [(lab,b,.tail u c)]:= .inr ⟨b,u,c,by rw[h],rfl⟩
theorem deps_dir(fs:List Fea)(n:Str):deps fs n=(dirF ((findF fs n).getD zfe).body).filter (inF fs):=by
 unfold deps
 split
 ·rename_i f h;rw[h];rfl
 ·rename_i h;rw[h];rfl
theorem filt_snoc{l:List Str}{i:Nat}(h:i<l.length)(p:Str→Bool):(l.take (i+1)).filter p=(l.take i).filter p++if p (l.getD i default)=true then[l.getD i default]else[]:=by
 rw[List.take_succ_eq_append_getElem h,← getD_eq h,List.filter_append,List.filter_cons];rfl
theorem dirF_len(x:Ex):(dirF x).length≤x.size:=by
 have h1:=(dirL_len x ([],[])).1
 have h2:=(feats_size x).1
 simp only[List.length_nil,Nat.zero_add]at h1
 unfold dirF;omega
theorem next12_ok(c:Cat)(hs:Small c)(hc0:c.Fits)(n:Str):Pure Tryz.prog 53 [.agg c.cells,sv n] (strsA (deps c.features n)):=by
 have hA:=featR_ok c n
 have hg:=(got_small hs hc0 n).1
 have hD:=direct_nil _ hg
 rw[deps_dir]
 have hl:(dirF ((findF c.features n).getD zfe).body).length≤5000:=Nat.le_trans (dirF_len _) hg
 refine Pure.runk (fun _=>0) Tryz.func53 comp53 era53 (Nat.le_of_ble_eq_true rfl) fun σ=> ?_
 repeat'(first|exact .nil|refine .k0 ?_|refine .k1 ?_|refine .k2 ?_|refine .k6 ?_|refine .r1 ?_ ?_|(refine .l1 ?_;intro b)|(refine .m1 ?_ ?_;intro b)|refine .an rfl (by intro hob;first|exact hA|exact hD|fail) ?_ ?_|fail)
 all_goals(try simp only[BL]at *)
 all_goals generalize dirF ((findF c.features n).getD zfe).body=D at *
 rename_i b1
 refine WK_loop (fun m rg σ'=>∃ (i:Nat) (x:AV) (τ:Store),i≤D.length∧m=D.length-i∧Gr 47 (((D.take i).filter (inF c.features)).map strRow) x τ∧σ'=τ++(2,b1,Blk.cells c.cells)::σ∧rg=[(2,.lp 2 b1 0),(7,strsA D),(9,x),(10,iv i)]) D.length rfl ⟨_,_,Zr,Zs,0,_,_,Nat.zero_le _,rfl,Gr.z,rfl,rfl⟩ ?_
 rintro m _ _ ⟨i,x,τ,hi,hm,hG,rfl,rfl⟩
 have hfl:((D.take i).filter (inF c.features)).length≤5000:=Nat.le_trans (List.length_filter_le _ _) (by rw[List.length_take];omega)
 have hsn:=fun(h:i<D.length)=>filt_snoc h (inF c.features)
 rcases hG with⟨hE,rfl,rfl⟩|⟨b3,u3,c3,rfl,rfl⟩
 all_goals
  repeat'(first|exact .nil|refine .k0 ?_|refine .k1 ?_|refine .k2 ?_|refine .k3 ?_|refine .k6 ?_|refine .k7 ?_|refine .k8 ?_|refine .k9 ?_|(refine .cd ?_ ?_<;>(intro hc;skip))|refine .r1 ?_ ?_|(refine .l1 ?_;intro b)|(refine .m2 ?_ ?_;intro hlen)|refine .t1 ?_ ?_ ?_|refine .u1 ?_ ?_ ?_ (fun b u c=> ?_)|refine .u2 ?_ ?_ ?_ (fun b u c=> ?_)|refine .an rfl (by intro hob;exact featR_ok c _) ?_ ?_|(show List.all _ _=true;rfl)|fail)
  try any_goals((intro hob;first|(simp_all;done)|fail))
  all_goals(try simp only[BL]at *)
  all_goals first|(show _≤1000000;simp only[List.length_cons,List.length_nil];omega)|(show _ * _≤_;simp only[List.length_map,List.length_cons,List.length_nil];omega)|skip
  ·refine⟨m-1,by omega,_,_,Zr,Zs,i+1,_,_,by omega,by omega,Gr.s ?_,rfl,by rw[up1 (n:=D.length) (by omega) (by assumption)]⟩
   rw[hsn (by omega),show inF _ (D.getD i default)=true from hc,if_pos rfl,List.map_append]
   first|(rw[hE];rfl)|rfl
  ·refine⟨m-1,by omega,_,_,Zr,Zs,i+1,_,_,by omega,by omega,?_,rfl,by rw[up1 (n:=D.length) (by omega) (by assumption)]⟩
   rw[hsn (by omega),if_neg (by show¬(findF c.features _).isSome=true;rw[hc];simp),List.append_nil]
   first|exact Gr.n hE|exact Gr.s rfl
  ·rw[List.take_of_length_le (by omega)]at *
   first|(have h0:=List.map_eq_nil_iff.1 hE;rw[h0];(refine Sx.Fin.wk Zs ?_;repeat' first|exact .nil|fail))|(refine Sx.Fin.wk Zs ?_;repeat' exact .own _)
def idxL(N l:List Str):List Nat:=(List.range N.length).filter fun k=>decide (N.getD k default∈l)
abbrev natsA(l:List Nat):AV:= .sl false 1 (l.map fun(k:Nat)=>[iv k])
abbrev graphA(N:List Str)(g:Str→List Str):AV:= .sl false 1 (N.map fun n=>[natsA (idxL N (g n))])
theorem idx_take(N l:List Str)(k:Nat):(List.range (k+1)).filter (fun k=>decide (N.getD k default∈l))=(List.range k).filter (fun k=>decide (N.getD k default∈l))++if N.getD k default∈l then[k]else[]:=by
 rw[List.range_succ,List.filter_append,List.filter_cons];simp
theorem graph12_ok(C:Cat)(hs:Small C)(hc0:C.Fits):Pure Tryz.prog 51 [.agg C.cells] (.tup [strsA (namesF C.features),graphA (namesF C.features) (deps C.features)]):=by
 have hN:=names12_ok C (by have:=hs.f;omega)
 have hl:(namesF C.features).length≤40:=Nat.le_trans (namesF_len _) hs.f
 generalize namesF C.features=N at *
 refine Pure.runk (fun _=>0) Tryz.func51 comp51 era51 (Nat.le_of_ble_eq_true rfl) fun σ=> ?_
 repeat'(first|exact .nil|refine .k0 ?_|refine .k1 ?_|refine .k2 ?_|refine .k6 ?_|refine .r1 ?_ ?_|(refine .m1 ?_ ?_;intro b)|refine .an rfl (by intro hob;first|exact hN|fail) ?_ ?_|fail)
 all_goals(try simp only[BL]at *)
 rename Nat=>b1
 refine WK_loop (fun m rg σ'=>∃ (i:Nat) (x:AV) (τ:Store),i≤N.length∧m=N.length-i∧Gr 43 ((N.take i).map fun n=>[natsA (idxL N (deps C.features n))]) x τ∧σ'=τ++(1,b1,Blk.cells C.cells)::σ∧rg=[(1,.lp 1 b1 0),(4,strsA N),(5,x),(6,iv i)]) N.length rfl ⟨_,_,Zr,Zs,0,_,_,Nat.zero_le _,rfl,Gr.z,rfl,rfl⟩ ?_
 rintro m _ _ ⟨i,x,τ,hi,hm,hG,rfl,rfl⟩
 rcases hG with⟨hE,rfl,rfl⟩|⟨b3,u3,c3,rfl,rfl⟩
 all_goals
  repeat'(first|exact .nil|refine .k0 ?_|refine .k1 ?_|refine .k2 ?_|refine .k5 ?_|refine .k6 ?_|refine .k7 ?_|refine .k8 ?_|refine .k9 ?_|(refine .cd ?_ ?_<;>(intro hc;skip))|refine .r1 ?_ ?_|(refine .m2 ?_ ?_;intro hlen)|refine .t1 ?_ ?_ ?_|refine .an rfl (by intro hob;first|exact next12_ok C hs hc0 _|fail) ?_ ?_|fail)
  try any_goals((intro hob;first|(simp_all;done)|fail))
  all_goals(try simp only[BL]at *)
  rotate_left
  ·rw[List.take_of_length_le (by omega)]at *
   first|(have h0:=List.map_eq_nil_iff.1 hE;subst h0;(refine Sx.Fin.wk Zs ?_;repeat' first|exact .refl _|exact .nil|refine .cons ?_ ?_|refine .tup ?_|fail);done)|(show Sx.Fin _ _ _ _;(refine Sx.Fin.wk Zs ?_;repeat' first|exact .refl _|refine .cons ?_ ?_|refine .tup ?_|exact .own _);done)
  first
   |(have _:=b3
     refine WK_loop (fun m rg σ'=>∃ (k:Nat) (y:AV) (τ':Store),k≤N.length∧m=N.length-k∧Gr 39 (((List.range k).filter fun k=>decide (N.getD k default∈deps C.features (N.getD i default))).map fun(k:Nat)=>[iv k]) y τ'∧σ'=τ'++(43,b3,.tail u3 c3)::(1,b1,Blk.cells C.cells)::σ∧rg=[(1,.lp 1 b1 0),(4,strsA N),(5,.own 1 43 b3 u3 c3 ((N.take i).map fun n=>[natsA (idxL N (deps C.features n))])),(6,iv i),(7,strsA (deps C.features (N.getD i default))),(8,y),(9,iv k)]) N.length rfl ⟨_,_,Zr,Zs,0,_,_,Nat.zero_le _,rfl,Gr.z,rfl,rfl⟩ ?_)
   |refine WK_loop (fun m rg σ'=>∃ (k:Nat) (y:AV) (τ':Store),k≤N.length∧m=N.length-k∧Gr 39 (((List.range k).filter fun k=>decide (N.getD k default∈deps C.features (N.getD i default))).map fun(k:Nat)=>[iv k]) y τ'∧σ'=τ'++(1,b1,Blk.cells C.cells)::σ∧rg=[(1,.lp 1 b1 0),(4,strsA N),(5,nilA),(6,iv i),(7,strsA (deps C.features (N.getD i default))),(8,y),(9,iv k)]) N.length rfl ⟨_,_,Zr,Zs,0,_,_,Nat.zero_le _,rfl,Gr.z,rfl,rfl⟩ ?_
  all_goals
   rintro m2 _ _ ⟨k,y,τ',hk,hm2,hY,rfl,rfl⟩
   rcases hY with⟨hF,rfl,rfl⟩|⟨b5,u5,c5,rfl,rfl⟩
   all_goals
    repeat'(first|exact .nil|refine .k0 ?_|refine .k1 ?_|refine .k2 ?_|refine .k6 ?_|refine .k8 ?_|refine .k9 ?_|(refine .cd ?_ ?_<;>(intro hc;skip))|refine .r1 ?_ ?_|(refine .m2 ?_ ?_;intro hlen)|refine .t1 ?_ ?_ ?_|refine .u1 ?_ ?_ ?_ (fun b u c=> ?_)|refine .u2 ?_ ?_ ?_ (fun b u c=> ?_)|refine .an rfl (by intro hob;exact in_ok _ _) ?_ ?_|(show List.all _ _=true;rfl)|fail)
    try any_goals((intro hob;first|(simp_all;done)|fail))
    all_goals(try simp only[BL]at *)
    all_goals first|(show _≤1000000;simp only[List.length_cons,List.length_nil];omega)|(show _ * _≤_;(have hfl:=List.length_filter_le (fun k=>decide (N.getD k default∈deps C.features (N.getD i default))) (List.range k));simp only[List.length_map,List.length_cons,List.length_nil,List.length_take,List.length_range]at *;omega)|skip
    ·refine⟨m2-1,by omega,_,_,Zr,Zs,k+1,_,_,by omega,by omega,Gr.s ?_,rfl,by rw[up1 (n:=N.length) (by omega) (by assumption)]⟩
     rw[idx_take,if_pos hc,List.map_append]
     first|(rw[hF];rfl)|rfl
    ·refine⟨m2-1,by omega,_,_,Zr,Zs,k+1,_,_,by omega,by omega,?_,rfl,by rw[up1 (n:=N.length) (by omega) (by assumption)]⟩
     rw[idx_take,if_neg hc,List.append_nil]
     first|exact Gr.n hF|exact Gr.s rfl
    ·have hk:k=N.length:=by omega
     subst hk
     refine⟨m-1,by omega,_,[(43,b,.tail u c)]++(1,b1,Blk.cells C.cells)::σ,(.cons (.refl _) (.cons (.refl _) (.cons (Wk.ownrs (t':=43) (rows':=(N.take (i+1)).map fun n=>[natsA (idxL N (deps C.features n))]) ?_) (.cons (.refl _) .nil)))),Zs,i+1,_,_,by omega,by omega,Gr.s rfl,rfl,by rw[up1 (n:=N.length) (by omega) (by assumption)]⟩
     rw[List.take_succ_eq_append_getElem (by omega),List.map_append]
     have e:natsA (idxL N (deps C.features N[i]))= .sl false 1 (((List.range N.length).filter fun k=>decide (N.getD k default∈deps C.features (N.getD i default))).map fun(k:Nat)=>[iv k]):=by
      unfold idxL;rw[getD_eq (by omega:i<N.length)]
     have key:∀ y,Wk y (natsA (idxL N (deps C.features N[i])))→WkLL [[y]] (List.map (fun n=>[natsA (idxL N (deps C.features n))]) [N[i]]):=fun y h=> .cons (.cons h .nil) .nil
     first|(rw[hE,List.nil_append];refine key _ ?_)|refine WkLL.app (.refl _) (key _ ?_)
     rw[e]
     first|exact .ownr rfl|(rw[hF];exact .nil)
theorem dst_le(g:Str→List Str)(b:Str):∃ d,Dst g b d∧∀ x,d x≤1000:=by
 obtain⟨d,h⟩:=dst_ex g b
 refine⟨fun x=>min (d x) 1000,⟨fun x hx=> ?_,fun k x hk=> ?_⟩,fun x=>Nat.min_le_right _ _⟩
 ·have h1:d x<1000:=by have hx:min (d x) 1000<1000:=hx;omega
  have h2:min (d x) 1000=d x:=by omega
  show Stp g (min (d x) 1000) x b
  rw[h2];exact h.r x h1
 ·have:=h.l k x hk
  show min (d x) 1000≤k;omega
theorem idx_mem{N l:List Str}{x:Nat}:x∈idxL N l↔x<N.length∧N.getD x default∈l:=by
 unfold idxL;rw[List.mem_filter,List.mem_range,decide_eq_true_eq]
structure StI(g:Str→List Str)(N:List Str)(b:Str)(D:List Nat):Prop where
 len:D.length=N.length
 le:∀ j,j<N.length→D.getD j 0≤1000
 st:∀ j,j<N.length→D.getD j 0<1000→Stp g (D.getD j 0) (N.getD j default) b
def cand(T:Nat)(D:List Nat)(x:Nat):Nat:=if x=T then 1 else D.getD x 0+1
theorem getD_set{D:List Nat}{j k v:Nat}(h:j<D.length):(D.set j v).getD k 0=if k=j then v else D.getD k 0:=by
 rw[List.getD_eq_getElem?_getD,List.getElem?_set,List.getD_eq_getElem?_getD]
 by_cases e:j=k
 ·subst e;simp[h]
 ·rw[if_neg e,if_neg (fun h=>e h.symm)]
theorem StI.set{g:Str→List Str}{N:List Str}{T:Nat}{D:List Nat}(h:StI g N (N.getD T default) D){j x:Nat}(hj:j<N.length)(hx:x∈idxL N (g (N.getD j default)))(hlt:cand T D x<D.getD j 0):StI g N (N.getD T default) (D.set j (cand T D x)):=by
 have hjD:j<D.length:=by rw[h.len];exact hj
 have hle:=h.le j hj
 refine⟨by rw[List.length_set,h.len],fun k hk=> ?_,fun k hk h1=> ?_⟩
 ·rw[getD_set hjD];split
  ·omega
  ·exact h.le k hk
 ·rw[getD_set hjD]at h1 ⊢
  by_cases e:k=j
  ·subst e
   rw[if_pos rfl]
   obtain⟨hx1,hx2⟩:=idx_mem.1 hx
   unfold cand at hlt ⊢
   by_cases e2:x=T
   ·subst e2;rw[if_pos rfl];exact .one hx2
   ·rw[if_neg e2]at hlt ⊢
    exact .cons hx2 (h.st x hx1 (by omega))
  ·rw[if_neg e]at h1 ⊢;exact h.st k hk h1
theorem sum_set{D:List Nat}{j v:Nat}(h:j<D.length)(hlt:v<D.getD j 0):(D.set j v).sum<D.sum:=by
 induction D generalizing j with
 |nil=>simp at h
 |cons a D ih=>
  cases j with
  |zero=>simp at hlt ⊢;omega
  |succ j=>have:=ih (j:=j) (by simpa using h) (by simpa using hlt);simp;omega
def Clo(g:Str→List Str)(N:List Str)(T:Nat)(D:List Nat):Prop:=∀ j,j<N.length→∀ x∈idxL N (g (N.getD j default)),D.getD j 0≤cand T D x
theorem Clo.le{g:Str→List Str}{N:List Str}{T:Nat}{D:List Nat}(hc:Clo g N T D)(hT:T<N.length)(hg:∀ x y,y∈g x→y∈N){k:Nat}{a b:Str}(hs:Stp g k a b)(hb:b=N.getD T default):∀ j,j<N.length→N.getD j default=a→D.getD j 0≤k:=by
 induction hs with
 |one h=>
  intro j hj e
  subst hb e
  have:=hc j hj T (idx_mem.2 ⟨hT,h⟩)
  unfold cand at this
  rwa [if_pos rfl]at this
 |cons h t ih=>
  rename_i k a c b
  intro j hj e
  subst e
  obtain⟨x,hx,e⟩:=List.getElem_of_mem (hg _ _ h)
  have e':N.getD x default=c:=by rw[getD_eq hx];exact e
  have h1:=hc j hj x (idx_mem.2 ⟨hx,by rw[e'];exact h⟩)
  have h2:=ih hb x hx e'
  have h3:=t.pos
  unfold cand at h1
  split at h1<;>omega
theorem steps_fin{g:Str→List Str}{N:List Str}{T:Nat}{D:List Nat}{d:Str→Nat}(hd:Dst g (N.getD T default) d)(hd2:∀ x,d x≤1000)(hT:T<N.length)(hg:∀ x y,y∈g x→y∈N)(h:StI g N (N.getD T default) D)(hc:Clo g N T D):D=N.map d:=by
 refine List.ext_getElem (by rw[List.length_map,h.len]) fun j h1 h2=> ?_
 have hj:j<N.length:=by rw[← h.len];exact h1
 have e1:D.getD j 0=D[j]:=by rw[List.getD_eq_getElem?_getD,List.getElem?_eq_getElem h1];rfl
 rw[← e1,List.getElem_map,← getD_eq hj]
 have h3:=h.le j hj
 have h4:=hd2 (N.getD j default)
 have h5:D.getD j 0<1000→d (N.getD j default)≤D.getD j 0:=fun hlt=>hd.l _ _ (h.st j hj hlt)
 have h6:d (N.getD j default)<1000→D.getD j 0≤d (N.getD j default):=fun hlt=>hc.le hT hg (hd.r _ hlt) rfl j hj rfl
 omega
abbrev nvs(D:List Nat):List AV:=D.map fun(d:Nat)=>iv d
theorem fill_set{i n:Nat}(h:i<n):(List.replicate i 1000++List.replicate (n-i) 0).set i 1000=List.replicate (i+1) 1000++List.replicate (n-(i+1)) 0:=by
 obtain⟨k,e⟩:∃ k,n-i=k+1:=⟨n-i-1,by omega⟩
 rw[e,show n-(i+1)=k by omega,List.set_append_right _ _ (by simp),List.length_replicate,Nat.sub_self,List.replicate_succ,List.set_cons_zero,List.replicate_succ',List.append_assoc]
 rfl
theorem info_int:∃ i,Tryz.prog.info? 3=some i∧i.zero=some (.int .i64 0)∧i.size=1∧i.bytes=8:=by
 have h:(Tryz.prog.info? 3).map (fun i=>(i.zero,i.size,i.bytes))=some (some (.int .i64 0),1,8):=by kernel_rfl
 obtain⟨i,h1,h2⟩:=Option.map_eq_some_iff.1 h
 simp only[Prod.mk.injEq]at h2
 exact⟨i,h1,h2.1,h2.2.1,h2.2.2⟩
theorem over_nvs{D:List Nat}{o j v:Nat}(h:o=j)(hj:j<D.length):over (nvs D) o [iv v]=nvs (D.set j v)∧o+1≤(nvs D).length:=by
 subst h
 refine⟨?_,by rw[List.length_map];omega⟩
 unfold over
 have e:nvs (D.set o v)=(nvs D).set o (iv v):=List.map_set
 rw[e,List.set_eq_take_append_cons_drop,if_pos (by rw[List.length_map];exact hj)]
 simp
theorem get_nvs{D:List Nat}{o j:Nat}(h:o=j)(hj:j<D.length):(nvs D)[o]? =some (iv (D.getD j 0)):=by
 subst h
 rw[List.getElem?_map,List.getElem?_eq_getElem hj,List.getD_eq_getElem?_getD,List.getElem?_eq_getElem hj];rfl
theorem steps12_ok{N:List Str}{g:Str→List Str}{T:Nat}(hN:N.length≤40)(hT:T<N.length)(hg:∀ x y,y∈g x→y∈N){d:Str→Nat}(hd:Dst g (N.getD T default) d)(hd2:∀ x,d x≤1000):
  Pure Tryz.prog 52 [graphA N g,iv T] (.sl false 1 (N.map fun x=>[iv (d x)])):=by
 obtain⟨i,hi1,hi2,hi3,hi4⟩:=info_int
 have hlen:(nvs (N.map d)).length=N.length:=by simp
 have hfrz:=fun(σ:Store)=>(show Sx.Spec Tryz.prog 52 [graphA N g,iv T] σ fun r σ'=>∃ t b,r= .ret (.ms t b 0 (nvs (N.map d)).length (nvs (N.map d)).length)∧Sub ((t,b,.cells (nvs (N.map d)))::σ) σ' by
  rw[hlen]
  refine Spec.runk (fun d=>bif ([1000047,1000062,1000022,1000068]:List Nat).elem d then 1 else 0) Tryz.func52 comp52 era52 (Nat.le_of_ble_eq_true rfl) ?_
  repeat'(first|exact .nil|refine .k0 ?_|refine .k1 ?_|refine .k2 ?_|refine .r1 ?_ ?_|(refine .m2 ?_ ?_;intro hlen)|fail)
  all_goals(try simp only[BL]at *)
  refine VX_mks rfl hi1 hi2 rfl hi3 ?_ (by rw[hi4];omega) (by unfold maxLen;omega) fun b=> ?_
  repeat'(first|exact .nil|refine .k0 ?_|refine .k1 ?_|refine .k2 ?_|refine .k6 ?_|refine .r1 ?_ ?_|fail)
  all_goals(try simp only[BL]at *)
  rw[show List.replicate N.length (AV.v (.int .i64 0))=nvs (List.replicate 0 1000++List.replicate (N.length-0) 0) by simp]
  refine WK_loop (fun m rg σ'=>∃ i:Nat,i≤N.length∧m=N.length-i∧σ'=(13,b,.cells (nvs (List.replicate i 1000++List.replicate (N.length-i) 0)))::σ∧rg=[(0,graphA N g),(1,iv T),(5,.ms 13 b 0 N.length N.length),(6,iv i)]) N.length rfl ⟨_,_,Zr,Zs,0,Nat.zero_le _,rfl,rfl,rfl⟩ ?_
  rintro m _ _ ⟨i,hi,hm,rfl,rfl⟩
  repeat'(first|exact .nil|refine .k0 ?_|refine .k1 ?_|refine .k2 ?_|refine .k6 ?_|refine .k8 ?_|refine .k9 ?_|(refine .cd ?_ ?_<;>(intro hc;skip))|refine .r1 ?_ ?_|(refine .m2 ?_ ?_;intro hlen)|refine .r8 ?_ ?_|fail)
  all_goals(try simp only[BL]at *)
  ·omega
  ·refine VX_st rfl rfl rfl rfl rfl (over_nvs (j:=i) (v:=1000) (by omega) (by simp;omega)) OB.nil ?_
   repeat'(first|exact .nil|refine .k0 ?_|refine .k1 ?_|refine .k2 ?_|refine .r1 ?_ ?_|fail)
   all_goals(try simp only[BL]at *)
   refine⟨m-1,by omega,_,_,Zr,.refl _,i+1,by omega,by omega,?_,by rw[up1 (n:=50) (by omega) (by decide)]⟩
   rw[fill_set (by omega)]
   rfl
  rw[show N.length-i=0 by omega,List.replicate_zero,List.append_nil,show i=N.length by omega]
  generalize hD0:List.replicate N.length 1000=D0
  have hI0:StI g N (N.getD T default) D0:=by
   have e:∀ j,j<N.length→D0.getD j 0=1000:=fun j hj=>by rw[← hD0,List.getD_eq_getElem?_getD,List.getElem?_replicate,if_pos hj];rfl
   exact⟨by rw[← hD0,List.length_replicate],fun j hj=>by rw[e j hj];omega,fun j hj h=>by rw[e j hj]at h;omega⟩
  refine WK_loop (fun m rg σ'=>∃ (D:List Nat) (q:Bool),StI g N (N.getD T default) D∧(q=false→Clo g N T D)∧m=2 * D.sum+(if q=true then 1 else 0)∧σ'=(13,b,.cells (nvs D))::σ∧rg=[(0,graphA N g),(1,iv T),(5,.ms 13 b 0 N.length N.length),(7,.v (.bool q))]) (2 * D0.sum+1) rfl ⟨_,_,Zr,Zs,D0,true,hI0,fun h=>(by cases h),rfl,rfl,rfl⟩ ?_
  rintro m2 _ _ ⟨D,q,hD,hq,hm2,rfl,rfl⟩
  repeat'(first|exact .nil|refine .k0 ?_|refine .k1 ?_|refine .k2 ?_|refine .k6 ?_|refine .k7 ?_|refine .k8 ?_|refine .k9 ?_|(refine .cd ?_ ?_<;>(intro hc;skip))|refine .r1 ?_ ?_|fail)
  all_goals(try simp only[BL]at *)
  rotate_left
  ·exact⟨13,b,rfl,by rw[steps_fin hd hd2 hT hg hD (hq hc)];exact .refl _⟩
  rw[hc,if_pos rfl]at hm2
  refine WK_loop (fun m rg σ'=>∃ (D1:List Nat) (q1:Bool) (i:Nat),StI g N (N.getD T default) D1∧i≤N.length∧m=N.length-i∧(q1=false→D1=D∧∀ j,j<i→∀ x∈idxL N (g (N.getD j default)),D.getD j 0≤cand T D x)∧(q1=true→D1.sum<D.sum)∧σ'=(13,b,.cells (nvs D1))::σ∧rg=[(0,graphA N g),(1,iv T),(5,.ms 13 b 0 N.length N.length),(7,.v (.bool q1)),(8,iv i)]) N.length rfl ⟨_,_,Zr,Zs,D,false,0,hD,Nat.zero_le _,rfl,fun _=>⟨rfl,fun j hj=>absurd hj (by omega)⟩,fun h=>(by cases h),rfl,rfl⟩ ?_
  rintro m3 _ _ ⟨D1,q1,i,hD1,hi,hm3,hq1,hs1,rfl,rfl⟩
  repeat'(first|exact .nil|refine .k0 ?_|refine .k1 ?_|refine .k2 ?_|refine .k6 ?_|refine .k8 ?_|refine .k9 ?_|(refine .cd ?_ ?_<;>(intro hc;skip))|refine .r1 ?_ ?_|(refine .m2 ?_ ?_;intro hlen)|fail)
  all_goals(try simp only[BL]at *)
  rotate_left
  ·cases q1 with
   |true=>exact⟨2 * D1.sum+1,by have:=hs1 rfl;omega,_,_,Zr,Zs,D1,true,hD1,fun h=>(by cases h),rfl,rfl,rfl⟩
   |false=>
    obtain⟨rfl,h2⟩:=hq1 rfl
    exact⟨2 * D1.sum,by omega,_,_,Zr,Zs,D1,false,hD1,fun _ j hj=>h2 j (by omega),rfl,rfl,rfl⟩
  have hiN:i<N.length:=by omega
  refine WK_loop (fun m rg σ'=>∃ (D2:List Nat) (q2:Bool) (k:Nat),StI g N (N.getD T default) D2∧k≤(idxL N (g (N.getD i default))).length∧m=(idxL N (g (N.getD i default))).length-k∧(q2=false→D2=D∧(∀ j,j<i→∀ x∈idxL N (g (N.getD j default)),D.getD j 0≤cand T D x)∧∀ j,j<k→D.getD i 0≤cand T D ((idxL N (g (N.getD i default))).getD j default))∧(q2=true→D2.sum<D.sum)∧σ'=(13,b,.cells (nvs D2))::σ∧rg=[(0,graphA N g),(1,iv T),(5,.ms 13 b 0 N.length N.length),(7,.v (.bool q2)),(8,iv i),(9,iv k)]) (idxL N (g (N.getD i default))).length rfl ⟨_,_,Zr,Zs,D1,q1,0,hD1,Nat.zero_le _,rfl,fun h=>⟨(hq1 h).1,(hq1 h).2,fun j hj=>absurd hj (by omega)⟩,hs1,rfl,rfl⟩ ?_
  rintro m4 _ _ ⟨D2,q2,k,hD2,hk,hm4,hq2,hs2,rfl,rfl⟩
  repeat'(first|exact .nil|refine .k0 ?_|refine .k1 ?_|refine .k2 ?_|refine .k6 ?_|refine .k8 ?_|refine .k9 ?_|(refine .cd ?_ ?_<;>(intro hc;skip))|refine .r1 ?_ ?_|(refine .m2 ?_ ?_;intro hlen)|refine .t1 ?_ ?_ ?_|refine .r8 ?_ ?_|fail)
  try any_goals((intro hob;first|(simp_all;done)|fail))
  all_goals(try simp only[BL]at *)
  rotate_left 2
  ·have hk2:k=(idxL N (g (N.getD i default))).length:=by omega
   refine⟨m3-1,by omega,_,_,Zr,Zs,D2,q2,i+1,hD2,by omega,by omega,fun h=>⟨(hq2 h).1,cons_lt (hq2 h).2.1 fun x hx=> ?_⟩,hs2,rfl,by rw[up1 (n:=50) (by omega) (by decide)]⟩
   obtain⟨j,hj,rfl⟩:=List.getElem_of_mem hx
   have:=(hq2 h).2.2 j (by omega)
   have e:(idxL N (g (N.getD i default))).getD j default=(idxL N (g (N.getD i default)))[j]:=by rw[List.getD_eq_getElem?_getD,List.getElem?_eq_getElem hj];rfl
   rwa [e]at this
  all_goals have hX:=getD_mem (l:=idxL N (g (N.getD i default))) (i:=k) (by omega)
  all_goals have hX1:=(idx_mem.1 hX).1
  ·omega
  have hDX:=hD2.le _ hX1
  have hDi:=hD2.le _ hiN
  have hl2:=hD2.len
  refine VX_ld1 rfl rfl rfl (get_nvs (D:=D2) (j:=(idxL N (g (N.getD i default))).getD k default) (by omega) (by omega)) OB.nil ?_
  repeat'(first|exact .nil|refine .k0 ?_|refine .k1 ?_|refine .k2 ?_|refine .k9 ?_|(refine .cd ?_ ?_<;>(intro hc;skip))|refine .r1 ?_ ?_|refine .t1 ?_ ?_ ?_|refine .r8 ?_ ?_|fail)
  try any_goals((intro hob;first|(simp_all;done)|fail))
  all_goals(try simp only[BL]at *)
  all_goals try(refine VX_ld1 rfl rfl rfl (get_nvs (D:=D2) (j:=i) (by omega) (by omega)) OB.nil ?_)
  all_goals repeat'(first|exact .nil|refine .k0 ?_|refine .k1 ?_|refine .k2 ?_|refine .k9 ?_|(refine .cd ?_ ?_<;>(intro hc;skip))|refine .r1 ?_ ?_|refine .r8 ?_ ?_|fail)
  all_goals try any_goals((intro hob;fail))
  all_goals(try simp only[BL]at *)
  all_goals try(show(0:Int)≤_∧_;omega)
  ·have hcd:cand T D2 ((idxL N (g (N.getD i default))).getD k default)=1:=if_pos (by omega)
   refine VX_st rfl rfl rfl rfl rfl (over_nvs (j:=i) (v:=1) (by omega) (by omega)) OB.nil ?_
   repeat'(first|exact .nil|refine .k0 ?_|refine .k1 ?_|refine .k2 ?_|refine .r1 ?_ ?_|fail)
   all_goals(try simp only[BL]at *)
   have hlt:cand T D2 ((idxL N (g (N.getD i default))).getD k default)<D2.getD i 0:=by rw[hcd];omega
   refine⟨m4-1,by omega,_,_,Zr,.refl _,D2.set i (cand T D2 ((idxL N (g (N.getD i default))).getD k default)),true,k+1,hD2.set hiN hX hlt,by omega,by omega,fun h=>(by cases h),fun _=> ?_,by rw[hcd];rfl,by rw[up1 (n:=(idxL N (g (N.getD i default))).length) (by omega) (by assumption)]⟩
   have h1:=sum_set (D:=D2) (j:=i) (by omega) hlt
   cases q2 with
   |true=>have:=hs2 rfl;omega
   |false=>rw[(hq2 rfl).1]at h1 ⊢;exact h1
  ·have hcd:cand T D2 ((idxL N (g (N.getD i default))).getD k default)=1:=if_pos (by omega)
   refine⟨m4-1,by omega,_,_,Zr,Zs,D2,q2,k+1,hD2,by omega,by omega,fun h=>⟨(hq2 h).1,(hq2 h).2.1,cons_lt (hq2 h).2.2 ?_⟩,hs2,rfl,by rw[up1 (n:=(idxL N (g (N.getD i default))).length) (by omega) (by assumption)]⟩
   rw[← (hq2 h).1,hcd];omega
  all_goals
   have hcd:cand T D2 ((idxL N (g (N.getD i default))).getD k default)=D2.getD ((idxL N (g (N.getD i default))).getD k default) 0+1:=if_neg (by omega)
   have hup:=up1 (i:=D2.getD ((idxL N (g (N.getD i default))).getD k default) 0) (n:=1001) (by omega) (by decide)
   simp only[hup]at *
  ·refine VX_st rfl rfl rfl rfl rfl (over_nvs (j:=i) (v:=D2.getD ((idxL N (g (N.getD i default))).getD k default) 0+1) (by omega) (by omega)) OB.nil ?_
   repeat'(first|exact .nil|refine .k0 ?_|refine .k1 ?_|refine .k2 ?_|refine .r1 ?_ ?_|fail)
   all_goals(try simp only[BL]at *)
   have hlt:cand T D2 ((idxL N (g (N.getD i default))).getD k default)<D2.getD i 0:=by rw[hcd];omega
   refine⟨m4-1,by omega,_,_,Zr,.refl _,D2.set i (cand T D2 ((idxL N (g (N.getD i default))).getD k default)),true,k+1,hD2.set hiN hX hlt,by omega,by omega,fun h=>(by cases h),fun _=> ?_,by rw[hcd];rfl,by rw[up1 (n:=(idxL N (g (N.getD i default))).length) (by omega) (by assumption)]⟩
   have h1:=sum_set (D:=D2) (j:=i) (by omega) hlt
   cases q2 with
   |true=>have:=hs2 rfl;omega
   |false=>rw[(hq2 rfl).1]at h1 ⊢;exact h1
  ·refine⟨m4-1,by omega,_,_,Zr,Zs,D2,q2,k+1,hD2,by omega,by omega,fun h=>⟨(hq2 h).1,(hq2 h).2.1,cons_lt (hq2 h).2.2 ?_⟩,hs2,rfl,by rw[up1 (n:=(idxL N (g (N.getD i default))).length) (by omega) (by assumption)]⟩
   rw[← (hq2 h).1,hcd];omega)
 have:=fun σ=>Spec.frz (hfrz σ) (by rw[hlen];unfold maxLen;omega)
 refine⟨fun σ=> ?_⟩
 have h1:=this σ
 rw[List.map_map,List.map_map]at h1
 exact h1
section
variable {g:Str→List Str}{N:List Str}{dd:Nat→Str→Nat}
theorem srt_lt(hNs:Srt N){k j:Nat}(hk:k<N.length)(hj:j<N.length)(h:sLt (N.getD j default) (N.getD k default)=true):j<k:=by
 rw[getD_eq hk,getD_eq hj]at h
 rcases Nat.lt_or_ge j k with h1|h1
 ·exact h1
 ·rcases Nat.eq_or_lt_of_le h1 with rfl|h2
  ·rw[sLt_irrefl]at h;cases h
  ·have:=List.pairwise_iff_getElem.1 hNs k j hk hj h2
   rw[sLt_asymm this]at h;cases h
theorem cyc_fin(hg:∀ n,Srt (g n))(hNs:Srt N)(hd:∀ j,j<N.length→Dst g (N.getD j default) (dd j)){k e:Nat}{L:List Str}(hk:k<N.length)(hde:dd k (N.getD k default)=e+1)(h1:e+1<1000)(hlt:∀ j,j<k→e+1<dd j (N.getD j default))(hle:∀ j,j<N.length→e+1≤dd j (N.getD j default))(hG:Gre g (dd k) e (N.getD k default) L):N.getD k default::L=cycL g N:=by
 have hl:=hG.len
 refine(cycL_eq (.inr ⟨_,L,rfl,getD_mem hk,hG.isBest hg (hd k hk) hde (by omega),fun b hb hs m hm=> ?_,fun b hb m hm=> ?_⟩)).symm
 ·obtain⟨j,hj,rfl⟩:=List.getElem_of_mem hb
  rw[← getD_eq hj]at hs hm
  have h2:=hlt j (srt_lt hNs hk hj hs)
  have h3:=(hd j hj).l _ _ (hm.1.stp hm.2)
  omega
 ·obtain⟨j,hj,rfl⟩:=List.getElem_of_mem hb
  rw[← getD_eq hj]at hm
  have h2:=hle j hj
  have h3:=(hd j hj).l _ _ (hm.1.stp hm.2)
  omega
theorem pth_mem(hN:∀ x y,y∈g x→y∈N):∀ (q:List Str) (a:Str),Pth g a q→∀ s∈q,s∈N:=fun q=>by
 induction q with
 |nil=>intro a _ s h;cases h
 |cons b q ih=>
  intro a hp s h
  rcases List.mem_cons.1 h with rfl|h
  ·exact hN _ _ hp.1
  ·exact ih b hp.2 s h
theorem cyc_none(hg:∀ n,Srt (g n))(hNs:Srt N)(hN:∀ x y,y∈g x→y∈N)(hl:N.length≤40)(hd:∀ j,j<N.length→Dst g (N.getD j default) (dd j))(hall:∀ j,j<N.length→1000≤dd j (N.getD j default)):cycL g N=[]:=by
 rcases cycL_is g hg hNs hN (by omega)with⟨e,_⟩|⟨a,q,e,ha,hb,_⟩
 ·exact e
 ·exfalso
  have h1:=nodup_le (List.nodup_cons.1 (short_nodup hb.c hb.s)).2 (pth_mem hN q a hb.c.1)
  obtain⟨j,hj,rfl⟩:=List.getElem_of_mem ha
  have h2:=hall j hj
  have h3:=(hd j hj).l _ _ (hb.c.1.stp (by rw[getD_eq hj];exact hb.c.2))
  rw[← getD_eq hj]at h3
  omega
theorem map_idx(hNs:Srt N){l:List Str}(hl:Srt l)(hs:∀ y∈l,y∈N):(idxL N l).map (fun k=>N.getD k default)=l:=by
 refine srt_ext ?_ hl fun x=> ?_
 ·unfold Srt
  rw[List.pairwise_map]
  have h1:(idxL N l).Pairwise (·<·):=List.Pairwise.filter _ List.pairwise_lt_range
  refine h1.imp_of_mem fun {a b} ha hb hab=> ?_
  have ha':=(idx_mem.1 ha).1
  have hb':=(idx_mem.1 hb).1
  rw[getD_eq ha',getD_eq hb']
  exact List.pairwise_iff_getElem.1 hNs a b ha' hb' hab
 ·rw[List.mem_map]
  constructor
  ·rintro⟨k,hk,rfl⟩;exact(idx_mem.1 hk).2
  ·intro hx
   obtain⟨k,hk,rfl⟩:=List.getElem_of_mem (hs x hx)
   exact⟨k,idx_mem.2 ⟨hk,by rw[getD_eq hk];exact hx⟩,getD_eq hk⟩
theorem find_idx(hNs:Srt N){l:List Str}(hl:Srt l)(hs:∀ y∈l,y∈N){p:Str→Bool}{b:Str}(h:l.find? p=some b):∃ k,k<(idxL N l).length∧N.getD ((idxL N l).getD k default) default=b∧p b=true∧∀ j,j<k→p (N.getD ((idxL N l).getD j default) default)=false:=by
 rw[← map_idx hNs hl hs,List.find?_map,Option.map_eq_some_iff]at h
 obtain⟨x,hx,rfl⟩:=h
 rw[List.find?_eq_some_iff_getElem]at hx
 obtain⟨h1,k,hk,e,h2⟩:=hx
 have ek:∀ j (hj:j<(idxL N l).length),(idxL N l).getD j default=(idxL N l)[j]:=fun j hj=>by rw[List.getD_eq_getElem?_getD,List.getElem?_eq_getElem hj];rfl
 refine⟨k,hk,by rw[ek k hk,e],h1,fun j hj=> ?_⟩
 have:=h2 j hj
 rw[ek j (by omega)]
 simpa using this
end
def Grf(lab:Nat)(rows:List (List AV))(x:AV)(τ:Store):Prop:=(x= .fl 1 rows∧τ=[])∨∃ b u c,x= .own 1 lab b u c rows∧τ=[(lab,b,.tail u c)]
theorem cycle12_ok(C:Cat)(hs:Small C)(hc0:C.Fits):Pure Tryz.prog 19 [.agg C.cells] (strsA (cycL (deps C.features) (namesF C.features))):=by
 have hG:=graph12_ok C hs hc0
 have hl:(namesF C.features).length≤40:=Nat.le_trans (namesF_len _) hs.f
 have hNs:=namesF_srt C.features
 have hg:∀ x y,y∈deps C.features x→y∈namesF C.features:=fun x y h=>deps_to h
 have hgs:=deps_srt C.features
 generalize deps C.features=g at *
 generalize namesF C.features=N at *
 obtain⟨dd,hdd,hd2⟩:∃ dd:Nat→Str→Nat,(∀ j,Dst g (N.getD j default) (dd j))∧∀ j x,dd j x≤1000:=by
  refine⟨fun j=>(dst_le g (N.getD j default)).choose,fun j=>(dst_le g (N.getD j default)).choose_spec.1,fun j=>(dst_le g (N.getD j default)).choose_spec.2⟩
 have hS0:=fun(j:Nat) (h:j<N.length)=>steps12_ok (d:=dd j) hl h hg (hdd j) (hd2 j)
 refine Pure.runk (fun d=>bif ([45]:List Nat).elem d then 3 else 0) Tryz.func19 comp19 era19 (Nat.le_of_ble_eq_true rfl) fun σ=> ?_
 repeat'(first|exact .nil|refine .k0 ?_|refine .k1 ?_|refine .k2 ?_|refine .k6 ?_|refine .r1 ?_ ?_|(refine .m1 ?_ ?_;intro b)|refine .an rfl (by intro hob;first|exact hG|fail) ?_ ?_|fail)
 all_goals(try simp only[BL]at *)
 refine WK_loop (fun m rg σ'=>∃ (i:Nat) (best least:Int),i≤N.length∧m=N.length-i∧((best= -1∧least=1000∧∀ j,j<i→1000≤dd j (N.getD j default))∨∃ k:Nat,k<i∧best=k∧least=dd k (N.getD k default)∧dd k (N.getD k default)<1000∧(∀ j,j<k→dd k (N.getD k default)<dd j (N.getD j default))∧∀ j,j<i→dd k (N.getD k default)≤dd j (N.getD j default))∧σ'=σ∧rg=[(3,strsA N),(4,graphA N g),(5,iv best),(6,iv least),(7,iv i)]) N.length rfl ⟨_,_,Zr,Zs,0, -1,1000,Nat.zero_le _,rfl,.inl ⟨rfl,rfl,fun j hj=>absurd hj (by omega)⟩,rfl,rfl⟩ ?_
 rintro m _ _ ⟨i,best,least,hi,hm,hb,rfl,rfl⟩
 have hS:=hS0 i
 repeat'(first|exact .nil|refine .k0 ?_|refine .k1 ?_|refine .k2 ?_|refine .k6 ?_|refine .k7 ?_|refine .k8 ?_|refine .k9 ?_|(refine .cd ?_ ?_<;>(intro hc;skip))|refine .r1 ?_ ?_|(refine .m2 ?_ ?_;intro hlen)|refine .t1 ?_ ?_ ?_|refine .an rfl (by intro hob;first|exact hS (by(simp only[BL]at *;omega))|fail) ?_ ?_|fail)
 try any_goals((intro hob;first|(simp_all;done)|fail))
 all_goals(try simp only[BL]at *)
 ·rcases hb with⟨rfl,rfl,h1⟩|⟨k,hk,rfl,rfl,h1,h2,h3⟩
  ·exact⟨m-1,by omega,_,_,Zr,Zs,i+1,i,_,by omega,by omega,.inr ⟨i,by omega,rfl,rfl,by omega,fun j hj=>by have:=h1 j hj;omega,cons_lt (fun j hj=>by have:=h1 j hj;omega) (Nat.le_refl _)⟩,rfl,by rw[up1 (n:=50) (by omega) (by decide)]⟩
  ·exact⟨m-1,by omega,_,_,Zr,Zs,i+1,i,_,by omega,by omega,.inr ⟨i,by omega,rfl,rfl,by omega,fun j hj=>by have:=h3 j hj;omega,cons_lt (fun j hj=>by have:=h3 j hj;omega) (Nat.le_refl _)⟩,rfl,by rw[up1 (n:=50) (by omega) (by decide)]⟩
 ·have hiN:i<N.length:=by clear hb;omega
  refine⟨m-1,by clear hb;omega,_,_,Zr,Zs,i+1,best,least,hiN,by clear hb;omega,?_,rfl,by clear hb;rw[up1 (n:=50) (by omega) (by decide)]⟩
  rcases hb with⟨rfl,rfl,h1⟩|⟨k,hk,rfl,rfl,h1,h2,h3⟩
  ·exact .inl ⟨rfl,rfl,cons_lt h1 (by omega)⟩
  ·exact .inr ⟨k,by omega,rfl,rfl,h1,h2,cons_lt h3 (by omega)⟩
 ·rcases hb with⟨rfl,rfl,h1⟩|⟨k,hk,rfl,rfl,h1,h2,h3⟩
  ·rw[cyc_none hgs hNs hg hl (fun j _=>hdd j) (fun j hj=>h1 j (by omega))]
   exact Zw
  ·omega
 obtain⟨k0,hk0,rfl,rfl,h1,h2,h3⟩:∃ k:Nat,k<i∧best=k∧least=dd k (N.getD k default)∧dd k (N.getD k default)<1000∧(∀ j,j<k→dd k (N.getD k default)<dd j (N.getD j default))∧∀ j,j<i→dd k (N.getD k default)≤dd j (N.getD j default):=by
  rcases hb with⟨rfl,rfl,h1⟩|h;omega;exact h
 clear hb hS
 have hS2:=hS0 k0 (by omega)
 obtain⟨e,he⟩:∃ e,dd k0 (N.getD k0 default)=e+1:=⟨dd k0 (N.getD k0 default)-1,by have:=((hdd k0).r _ h1).pos;omega⟩
 obtain⟨L,hL⟩:=gre_ex (hdd k0) e _ he h1
 have hfin:=cyc_fin hgs hNs (fun j _=>hdd j) (by omega) he (by omega) (fun j hj=>by have:=h2 j hj;omega) (fun j hj=>by have:=h3 j (by omega);omega) hL
 have hLl:=hL.len
 rw[← hfin]
 rw[he]
 repeat'(first|exact .nil|refine .k0 ?_|refine .k1 ?_|refine .k2 ?_|refine .k6 ?_|refine .r1 ?_ ?_|refine .t1 ?_ ?_ ?_|refine .an rfl (by intro hob;exact hS2) ?_ ?_|fail)
 try any_goals((intro hob;(simp only[BL]at *;omega)))
 all_goals(try simp only[BL]at *)
 all_goals try(show(0:Int)≤_∧_;omega)
 all_goals try(show 1≤1000000;decide)
 rename Store=>σ0
 rw[show IntKind.i64.wrap (((e+1:Nat):Int)-1)=(e:Int) by rw[i64w (by omega)];omega]
 refine WK_loop (fun m rg σ'=>∃ (r a:Nat) (p l:List Str) (x:AV) (τ:Store),a<N.length∧m=r∧Gre g (dd k0) r (N.getD a default) l∧L=p++l∧Grf 80 ((N.getD k0 default::p).map strRow) x τ∧σ'=τ++σ0∧rg=[(3,strsA N),(4,graphA N g),(9,.sl false 1 (N.map fun x=>[iv (dd k0 x)])),(10,x),(11,iv a),(12,iv r)]) e rfl ⟨_,_,Zr,Zs,e,k0,[],L,_,_,by omega,rfl,hL,rfl,.inl ⟨rfl,rfl⟩,rfl,rfl⟩ ?_
 rintro m2 _ _ ⟨r,a,p,l,x,τ,ha,hm2,hGr,hLp,hx,rfl,rfl⟩
 have hpl:p.length≤1000:=by have:=congrArg List.length hLp;rw[List.length_append]at this;omega
 have hrl:r≤1000:=by
  have h1:=congrArg List.length hLp
  have h2:=hGr.len
  rw[List.length_append]at h1;omega
 rcases hx with⟨rfl,rfl⟩|⟨b4,u4,c4,rfl,rfl⟩
 all_goals
  repeat'(first|exact .nil|refine .k0 ?_|refine .k1 ?_|refine .k2 ?_|refine .k6 ?_|refine .k7 ?_|refine .k8 ?_|refine .k9 ?_|(refine .cd ?_ ?_<;>(intro hc;skip))|refine .r1 ?_ ?_|fail)
  all_goals(try simp only[BL]at *)
  rotate_left
  ·obtain rfl:r=0:=by omega
   cases hGr
   rw[hLp,List.append_nil]
   first|(refine Sx.Fin.wk Zs ?_;exact .flr rfl)|(refine Sx.Fin.wk Zs ?_;repeat' exact .own _)
  obtain⟨y1,l1,r1,rfl,rfl,hfb,hG1⟩:∃ y1 l1 r1,r=r1+1∧l=y1::l1∧(g (N.getD a default)).find? (fun x=>decide (dd k0 x=r1+1))=some y1∧Gre g (dd k0) r1 y1 l1:=by
   cases hGr with
   |nil=>exact absurd hc (by simp)
   |cons h t=>exact⟨_,_,_,rfl,rfl,h,t⟩
  obtain⟨k1,hk1,hkb,hkp,hkn⟩:=find_idx hNs (hgs _) (fun y h=>hg _ y h) hfb
  have hkp:=of_decide_eq_true hkp
  have hkn:∀ j,j<k1→¬dd k0 (N.getD ((idxL N (g (N.getD a default))).getD j default) default)=r1+1:=fun j hj=>of_decide_eq_false (hkn j hj)
  rw[← hkb]at hkp
  have hil:(idxL N (g (N.getD a default))).length≤40:=Nat.le_trans (List.length_filter_le _ _) (by rw[List.length_range];exact hl)
  have hXl:∀ j,j<(idxL N (g (N.getD a default))).length→(idxL N (g (N.getD a default))).getD j default<N.length:=fun j hj=>(idx_mem.1 (getD_mem hj)).1
  first
   |(have _:=b4
     refine WK_loop (fun m rg σ'=>∃ k:Nat,k≤k1∧m=k1-k∧σ'=(80,b4,.tail u4 c4)::σ0∧rg=[(3,strsA N),(4,graphA N g),(9,.sl false 1 (N.map fun x=>[iv (dd k0 x)])),(10,.own 1 80 b4 u4 c4 ((N.getD k0 default::p).map strRow)),(11,iv a),(12,iv (r1+1:Nat)),(13,iv k)]) k1 rfl ⟨_,_,Zr,Zs,0,Nat.zero_le _,rfl,rfl,rfl⟩ ?_)
   |refine WK_loop (fun m rg σ'=>∃ k:Nat,k≤k1∧m=k1-k∧σ'=σ0∧rg=[(3,strsA N),(4,graphA N g),(9,.sl false 1 (N.map fun x=>[iv (dd k0 x)])),(10,.fl 1 ((N.getD k0 default::p).map strRow)),(11,iv a),(12,iv (r1+1:Nat)),(13,iv k)]) k1 rfl ⟨_,_,Zr,Zs,0,Nat.zero_le _,rfl,rfl,rfl⟩ ?_
  all_goals
   rintro m3 _ _ ⟨k,hk,hm3,rfl,rfl⟩
   have hXk:=hXl k (by omega)
   repeat'(first|exact .nil|refine .k0 ?_|refine .k1 ?_|refine .k2 ?_|refine .k6 ?_|refine .k8 ?_|refine .k9 ?_|(refine .cd ?_ ?_<;>(intro hc;skip))|refine .r1 ?_ ?_|refine .t1 ?_ ?_ ?_|refine .u2 ?_ ?_ ?_ (fun b u c=> ?_)|refine .u4 ?_ ?_ (fun b u c=> ?_)|(show List.all _ _=true;rfl)|fail)
   try any_goals((intro hob;first|(simp_all;done)|(simp only[BL]at *;omega)))
   all_goals(try simp only[BL]at *)
   all_goals try(show(0:Int)≤_∧_;omega)
   all_goals try(show 1≤1000000;decide)
   all_goals try(show _ * _≤_;simp only[List.length_map,List.length_cons,List.length_nil];omega)
   ·have hne:k≠k1:=fun e=>by subst e;exact hc (by rw[hkp])
    exact⟨m3-1,by omega,_,_,Zr,Zs,k+1,by omega,by omega,rfl,by rw[up1 (n:=50) (by omega) (by decide)]⟩
   ·obtain rfl:k=k1:=by
     rcases Nat.lt_or_ge k k1 with h|h
     ·exact absurd (by omega) (hkn k h)
     ·omega
    rw[← hkb]at hG1
    refine⟨r1,by omega,_,[(80,b,.tail u c)]++_,Zr,Zs,r1,(idxL N (g (N.getD a default))).getD k default,p++[y1],l1,_,_,hXk,rfl,hG1,by rw[hLp];simp,.inr ⟨b,u,c,rfl,rfl⟩,rfl,?_⟩
    rw[i64w (by omega),← hkb]
    rw[show((r1+1:Nat):Int)-1=(r1:Int) by omega]
    simp[strRow]
end Go.Proofs.YtekngilbecjkhaaGreatDoor
