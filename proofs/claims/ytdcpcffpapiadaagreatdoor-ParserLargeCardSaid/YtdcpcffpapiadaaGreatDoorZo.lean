/- The statement ParserLarge, walked. -/
import Derived.Test.YtdcpcffpapiadaaGreatDoorYm
import Derived.Test.YtdcpcffpapiadaaGreatDoorTie
import Derived.Test.YtdcpcffpapiadaaGreatDoorCards
import Derived.WalkKit
import Derived.ProofKit
import Derived.Lay
import Derived.LaidOnce
import Derived.SevenTiedAt
set_option linter.unusedSimpArgs false
set_option linter.unusedVariables false
set_option linter.unusedSectionVars false
set_option maxRecDepth 100000
set_option maxHeartbeats 8000000
namespace Go.Sx
open Go.RowKit
section
variable {P:Program}[Glob P]{M:Mem}{w0:Base}{w:World}{σ:Store}
theorem OpS_mks(tag:Nat){t ty e:TypeId}{q:TI}{l c:Operand}{i:TypeInfo}{z z0:Value}{n:Nat}(hi:P.info? e=some i)(hz:i.zero=some z)(hz1:z.cells= #[z0])(hsz:i.size=1)(hn:i.bytes * n≤281474976710656)(h63:n≤maxLen):
  OpS P (.makeSlice t l c) ty [.sl e,q] [l,c] [.v (.int .i64 n),.v (.int .i64 n)] σ fun x σ'=>∃ b,x= .ms tag b 0 n n∧σ'=(tag,b,.cells (List.replicate n (.v z0)))::σ:=by
 intro hti M w0 w ρ hI hR
 simp only[opInfo,List.cons.injEq,and_true]at hti
 have ht:=tiOf_sl hti.1
 obtain⟨v1,vs1,e1,h1,hR1⟩:=hR.uncons
 obtain⟨v2,e2,h2⟩:=hR1.un1
 subst e2
 simp only[List.map_cons,List.map_nil,List.cons.injEq,and_true]at e1
 have g1:=h1.of_v
 have g2:=h2.of_v
 subst g1 g2
 have hb':(i.bytes:Int) * (n:Int)≤281474976710656:=by
  have h:((i.bytes * n:Nat):Int)≤281474976710656:=by omega
  rwa [Int.natCast_mul]at h
 have hr:=run_make (P:=P) w t e i z ht hi hz .i64 .i64 n n (by omega) (Int.le_refl _) hb' (by unfold maxLen at h63;omega)
 rw[hz1,hsz,Int.toNat_natCast,Nat.mul_one]at hr
 have hm:(madeCells #[z0] n).toList=List.replicate n z0:=by
  simp only[madeCells,Array.toList_map,Array.toList_range]
  refine List.ext_getElem (by simp) fun j h1 h2=> ?_
  simp[Nat.mod_one]
 refine⟨.value (.slice (some ⟨w.heap.size,0,none⟩) n n),w.alloc (.cells (madeCells #[z0] n) e),M,.ms tag w.heap.size 0 n n,_,_,?_,rfl,Mem.le.refl _,?_,.ms _ _ _ _ _,_,rfl,rfl⟩
 ·simp only[execOp,e1.1,e1.2,Sem.run_bind,hr,Result.andThen_ok]
  rfl
 ·have h':=hI.alloc (.cells (madeCells #[z0] n) e)
  refine⟨h'.os,h'.tape,h'.output,h'.size,h'.old,h'.imm,fun x he=> ?_,?_,h'.gl,h'.gw,h'.bm⟩
  ·rcases List.mem_cons.1 he with rfl|he
   ·refine⟨hI.size,hI.freshM,madeCells #[z0] n,e,heap_alloc_new _ _,?_⟩
    rw[hm]
    have:=RL.exact (M:=M) (List.replicate n z0)
    rwa [List.map_replicate]at this
   ·exact h'.st x he
  ·simp only[List.map_cons,List.nodup_cons]
   exact⟨hI.fresh,hI.nd⟩
end
section
variable {P:Program}[Glob P]{cfg:Nat→Nat}{K:Regs→Store→Prop}{E:List PanicEntry→Store→Prop}{σ:Store}{l:List CI}{d:Nat}{v:AV}{xr:XR}{ps:List Prop}{og:Option Bool}{ys:List AV}
theorem VX_mks{t e ty:TypeId}{q:TI}{lo co:Operand}{i:TypeInfo}{z z0:Value}{n:Nat}(h:argO xr none [lo,co]=some (og,[.v (.int .i64 n),.v (.int .i64 n)],ps))(hi:P.info? e=some i)(hz:i.zero=some z)(hz1:z.cells= #[z0])(hsz:i.size=1)(hps:OB ps)(hn:i.bytes * n≤281474976710656)(h63:n≤maxLen)
  (k:∀ b,VX P cfg l K E ((d,.s (.ms d b 0 n n))::xr) ((d,b,.cells (List.replicate n (.v z0)))::σ)):VX P cfg (⟨some d,.exts (.makeSlice t lo co) ty [.sl e,q] [lo,co],none⟩::l) K E xr σ:=by
 obtain⟨hc,he⟩:=argO_eq h
 have hog:=argO_none h
 subst hog
 constructor
 simp only[vcX,vcG,vcO,he hps rfl]
 refine(OpS_mks d hi hz hz1 hsz hn h63).mono fun x σ' ⟨b,e1,e2⟩=> ?_
 subst e1 e2
 exact(k b).h
end
end Go.Sx
namespace Go.Proofs.YtdcpcffpapiadaaGreatDoor
open Go.Sx Go.Proofs
theorem comp3 : compF Tryz.prog Tryz.f3 = some c3 := by kernel_rfl
theorem era3 : c3.code = a3.erase := rfl
theorem over_rep{i:Nat}(h:i<16385):over (List.replicate i (AV.v (.int .u8 32))++List.replicate (16385-i) (AV.v (.int .u8 0))) (0+(i:Int).toNat * 1) [AV.v (.int .u8 32)]=List.replicate (i+1) (.v (.int .u8 32))++List.replicate (16385-(i+1)) (.v (.int .u8 0)):=by
 rw[Int.toNat_natCast,Nat.mul_one,Nat.zero_add]
 unfold over
 have e1:(List.replicate i (AV.v (.int .u8 32))++List.replicate (16385-i) (AV.v (.int .u8 0))).take i=List.replicate i (AV.v (.int .u8 32)):=List.take_left' (by simp)
 have e2:(List.replicate i (AV.v (.int .u8 32))++List.replicate (16385-i) (AV.v (.int .u8 0))).drop (i+1)=List.replicate (16385-(i+1)) (AV.v (.int .u8 0)):=by
  rw[List.drop_append,List.drop_of_length_le (by simp),List.nil_append,List.drop_replicate,List.length_replicate]
  congr 1;omega
 rw[e1]
 show List.replicate i _++[_]++List.drop (i+1) _=_
 rw[e2,List.replicate_succ']
theorem cells_of(b:UInt8){L:List AV}(hL:L=List.replicate 16385 (AV.v (.int .u8 32))):over L 0 [AV.v (.int .u8 b.toNat)]=((b::List.replicate 16384 32).map byteRow).flatten++[]:=by
 subst hL
 unfold over
 rw[List.take_zero,List.nil_append,List.append_nil,List.drop_replicate]
 have:∀ l:List UInt8,(l.map byteRow).flatten=l.map fun c=>AV.v (.int .u8 c.toNat):=fun l=>by
  induction l with
  |nil=>rfl
  |cons a l ih=>rw[List.map_cons,List.flatten_cons,ih];rfl
 rw[this,List.map_cons,List.map_replicate]
 rfl
theorem large_walk(b:UInt8)(x:Bs)(hx:x.length=16385)(h0:x=b::List.replicate 16384 32)(tab fea bad:List (List AV))(E T:List AV)(q r:AV)
  (hM:Sx.Pure Tryz.prog 9 [.sl false 1 (x.map byteRow)] (.tup [.agg [.sl false 4 [],.sl false 18 []],.sl false 2 [],iv 2]))
  (hE:Sx.Pure Tryz.prog 10 [.sl false 1 (x.map byteRow)] (.tup [.agg ex0.row,iv 0,iv 2])) (hT:Sx.Pure Tryz.prog 11 [.sl false 1 (x.map byteRow)] (.tup [.agg zT,iv 0,iv 2]))
  (hN:Sx.Pure Tryz.prog 9 [.sl false 1 ((x.take 16384).map byteRow)] (.tup [.agg [.sl false 4 tab,.sl false 18 fea],.sl false 2 bad,iv 0])):
  Sx.Pure Tryz.prog 3 [.v (.int .u8 b.toNat)] (.v (.bool true)):=by
 refine Pure.runk (fun _=>0) Tryz.func3 comp3 era3 (Nat.le_of_ble_eq_true rfl) fun σ=> ?_
 repeat'(first|exact .nil|refine .k0 ?_|refine .k1 ?_|refine .k2 ?_|refine .r1 ?_ ?_|fail)
 obtain⟨i0,hi0,hz0,hs0,hb0⟩:∃ i:TypeInfo,Tryz.prog.info? 5=some i∧i.zero=some (.int .u8 0)∧i.size=1∧i.bytes=1:=⟨_,rfl,rfl,rfl,rfl⟩
 refine VX_mks (n:=16385) (z0:= .int .u8 0) rfl hi0 hz0 rfl hs0 .nil (by rw[hb0];decide) (by decide) (fun b1=> ?_)
 repeat'(first|exact .nil|refine .k0 ?_|refine .k1 ?_|refine .k2 ?_|refine .k6 ?_|refine .r1 ?_ ?_|fail)
 clear hi0 hz0 hs0 hb0
 refine WK_loop (fun m rg σ'=>∃ i:Nat,i≤16385∧m=16385-i∧σ'=(17,b1,.cells (List.replicate i (.v (.int .u8 32))++List.replicate (16385-i) (.v (.int .u8 0))))::σ∧rg=[(0,.v (.int .u8 b.toNat)),(3,.ms 17 b1 0 16385 16385),(4,iv i)]) 16385 rfl ⟨_,_,Zr,Zs,0,Nat.zero_le _,rfl,rfl,rfl⟩ ?_
 rintro m _ _ ⟨i,hi,hm,rfl,rfl⟩
 repeat'(first|exact .nil|refine .k0 ?_|refine .k1 ?_|refine .k2 ?_|refine .k6 ?_|refine .k8 ?_|refine .k9 ?_|(refine .cd ?_ ?_<;>(intro hc;skip))|refine .r1 ?_ ?_|refine .r8 ?_ ?_|fail)
 ·have:=of_decide_eq_true hc;exact⟨by omega,this⟩
 ·have hi2:i<16385:=by have:=of_decide_eq_true hc;omega
  refine VX_st (cs':=List.replicate (i+1) (.v (.int .u8 32))++List.replicate (16385-(i+1)) (.v (.int .u8 0))) rfl rfl rfl rfl rfl ⟨?_,?_⟩ .nil ?_
  ·exact over_rep hi2
  ·simp only[List.length_append,List.length_replicate,List.length_cons,List.length_nil];omega
  simp(decide:=true)only[upt_hd,upt_ne]
  repeat'(first|exact .nil|refine .k0 ?_|refine .k1 ?_|refine .k2 ?_|refine .r1 ?_ ?_|fail)
  exact⟨m-1,by omega,_,_,Zr,Zs,i+1,by omega,by omega,rfl,by rw[up1 (n:=16385) (by omega) (by unfold maxLen;omega)]⟩
 ·exact⟨by decide,by decide⟩
 ·obtain⟨L,hL⟩:∃ L,List.replicate i (AV.v (.int .u8 32))++List.replicate (16385-i) (AV.v (.int .u8 0))=L:=⟨_,rfl⟩
  have hi3:i=16385:=by have:=of_decide_eq_false hc;omega
  have hL2:L=List.replicate 16385 (AV.v (.int .u8 32)):=by
   rw[← hL,hi3,Nat.sub_self,List.replicate_zero,List.append_nil]
  have hLl:L.length=16385:=by rw[hL2,List.length_replicate]
  rw[hL]
  refine VX_st (cs':=over L 0 [.v (.int .u8 b.toNat)]) rfl rfl rfl rfl rfl ⟨rfl,?_⟩ .nil ?_
  ·rw[hLl];decide
  simp(decide:=true)only[upt_hd,upt_ne]
  rw[cells_of b hL2,← h0]
  clear hL2 hLl hL hi3
  repeat'((fail_if_success (show WK _ _ _ _ _ _ _ _));(first|refine .k0 ?_|refine .k1 ?_|fail))
  refine WK_keep rfl ?_
  refine WK_frzn (t:=17) (b:=b1) (n:=16385) (c:=16385) (e:=1) (rows:=x.map byteRow) (post:=[]) .here (fun r hr=>by obtain⟨c,_,rfl⟩:=List.mem_map.1 hr;rfl) (by rw[List.length_map,hx]) ⟨Nat.le_refl _,by decide⟩ (.m .nil) ?_
  repeat'(first|exact .nil|refine .k0 ?_|refine .k1 ?_|refine .k2 ?_|refine .k7 ?_|refine .r1 ?_ ?_|(refine .l1 ?_;intro b)|(refine .m3 ?_ ?_;intro hlen)|refine .t2 ?_ ?_ ?_|refine .an rfl (by intro hob;first|exact hM|exact hE|exact hT|exact hN|exact example_ok) ?_ ?_|fail)
  ·intro _;exact⟨by decide,by rw[hx];decide⟩
  ·show Sx.Fin _ _ _ _;exact Zw
theorem large_ok(b:UInt8):Sx.Pure Tryz.prog 3 [.v (.int .u8 b.toNat)] (.v (.bool true)):=by
 obtain⟨x,h0⟩:∃ x:Bs,x=b::List.replicate 16384 32:=⟨_,rfl⟩
 have hx:x.length=16385:=by rw[h0,List.length_cons,List.length_replicate]
 have hM:=moduleA x false
 have hE:=exprA x false
 have hT:=typeA x false
 have hN:=moduleA (x.take 16384) false
 have e1:moduleP x=(⟨[],[]⟩,[],2):=if_pos (by omega)
 have e2:wholeB (exprP N0 false) x=((0,2),none):=if_pos (by omega)
 have e3:wholeB kindP x=((0,2),none):=if_pos (by omega)
 have e4:(moduleP (x.take 16384)).2.2=0:=by
  unfold moduleP
  rw[if_neg (by rw[List.length_take];omega)]
 unfold moduleV at hM hN
 rw[e1]at hM
 rw[e4]at hN
 unfold exprV at hE
 rw[e2,if_neg (by decide)]at hE
 unfold typeV at hT
 rw[e3,if_neg (by decide)]at hT
 exact large_walk b x hx h0 _ _ _ [] [] .any .any hM (Pure.wkr hE (.tup (.cons (.agg zE_wk) (WkL.refl _)))) hT hN
end Go.Proofs.YtdcpcffpapiadaaGreatDoor
namespace Go.Proofs.YtdcpcffpapiadaaGreatDoor.parserLarge
open Go.ChangeShapes Go.WideShapes Go.ChangeAt Go.RowKit Go.Sx Go.Proofs
theorem wrap{H:Type}{enc:TypeId×Value→H}{a:Assume}{C:Checked}{os:Os}{f:FuncId}{fn:Func}{s:ChangeSpec}{conds:List PathCond}{apart fresh handsOn again:Bool}{X:World→Array Value→Prop}
  (hX:∀ (w w':World) (args:Array Value),w.heap=w'.heap→X w args→X w' args)
  (own:ownKnob C.prog.godebug=none) (started:os.Started) (noInit:C.prog.inits.idxOf? f=none) (hfn:C.prog.funcs[f]? =some fn)
  (witness:∃ (w:World) (tape:Tape) (i:Input),w.os=os∧(w.forCall tape i).Shaped C.prog∧i.vars=[]∧Input.okWide C.prog (w.forCall tape i) .any w.heap.size f i∧
   ((s.pre enc C.prog fn conds apart (w.forCall tape i).memory i.args∧X (w.forCall tape i).memory i.args)∧sizedMet enc C.prog fn (OpenSpec.ofChange s) apart (w.forCall tape i).memory i.args)∧a.holds C.prog (lone (Frame.enter C.prog f i.args .normal) [] (w.forCall tape i)))
  (contract:∀ (W:World) (base:Nat) (args:Array Value) (ds gs:List (DataW H)) (before:List MemPlace),
   (∀ (j:Nat) t v,fn.params[j]? =some t→args[j]? =some v→Value.okWide C.prog W .any base t v)→
   DataW.Whole enc C.prog fn.params.toList s.vars apart W args.toList ds gs before→
   (DataW.weightsEach C.prog (fn.params.toList++s.plain.varTypes C.prog) (ds++gs)).all (·≤reachBytes)=true→X W args→W.ShapedOpen C.prog→
   Calls C.prog f args W fun e W'=>∃ v,e= .returned v∧s.post enc C.prog fn apart fresh handsOn again W args v W'):
  ReturnsInHanded a C os f .any (fun w args=>(s.pre enc C.prog fn conds apart w args∧X w args)∧sizedMet enc C.prog fn (OpenSpec.ofChange s) apart w args) (s.post enc C.prog fn apart fresh handsOn again):=by
 refine returnsInHanded_of_calls own started noInit witness ?_
 intro w tape i _ hsh _ hok hpre hholds
 obtain⟨_,_,_,fn',hfn',_,_,_,_,hval⟩:=hok
 have e:fn'=fn:=Option.some.inj (hfn'.symm.trans hfn)
 subst e
 obtain⟨⟨⟨ds,gs,before,hw,hc⟩,hx⟩,hz⟩:=hpre
 have hw':=DataW.Whole.of_heap (w':=w.forCall tape i) (by rfl) hw
 refine(contract (w.forCall tape i) w.heap.size i.args ds gs before hval hw' (hz.weights hw) (hX _ _ _ (by rfl) hx) hsh).mono fun e W' ⟨v,he,hp⟩=> ?_
 subst he
 exact ChangeSpec.post_blind hp
set_option maxRecDepth 100000 in
theorem lifted(os:Os)(started:os.Started)(H:Type)(enc:TypeId×Value→H):
  ReturnsInHanded {} Tryz.checked os 3 .any (fun w args=>(Rows.parserLargeSpec.pre enc Tryz.prog Tryz.f3 [] false w args∧laidMetH Tryz.prog Rows.parserLargeRow.laid w)∧sizedMet enc Tryz.prog Tryz.f3 (OpenSpec.ofChange Rows.parserLargeSpec) false w args)
   (Rows.parserLargeSpec.post enc Tryz.prog Tryz.f3 false true false false):=by
 refine wrap (C:=Tryz.checked) (X:=fun w _=>laidMetH Tryz.prog Rows.parserLargeRow.laid w) (fun _ _ _ hh h=>h.of_heap hh) own started (by kernel_rfl) Tryz.func3
  (ChangeSpec.witness_shaped (enc:=enc) (C:=Tryz.checked) (os:=os) (X:=fun w _=>laidMetH Tryz.prog Rows.parserLargeRow.laid w) false (World.laidAll Tryz.prog os Rows.parserLargeRow.laid) #[.int .u8 0] 8 (World.laidAll_os _ _ _)
   (World.shaped_of_ZipB (by kernel_rfl) (by kernel_rfl)) (by kernel_rfl) (by kernel_rfl) (by kernel_rfl)
   (by rw[MakeChecks.laidMetH_plain _ _ _ (by kernel_rfl)];exact laidMet_laidAll _ (by kernel_rfl) (by kernel_rfl))) ?_
 intro W base args ds gs before hval0 hW hsz hL hsh
 rw[MakeChecks.laidMetH_plain _ _ _ (by kernel_rfl)]at hL
 have hval:∀ (j:Nat) t v,Tryz.f3.params[j]? =some t→args[j]? =some v→Value.okWide Tryz.prog W .any base t v:=hval0
 have hW':=hW
 obtain⟨p,q,hA0,hV,rfl,_,_⟩:=hW
 have hA:DataW.TrodAll enc Tryz.prog W 0 (fun _=>true) true Tryz.f3.params.toList args.toList ds p:=hA0
 have hz0:∀ (j:Nat) t d,Tryz.f3.params.toList[j]? =some t→ds[j]? =some d→Wok Tryz.prog t d:=fun j t d ht hd n hn=>by
  have hl1:j<Tryz.f3.params.toList.length:=(List.getElem?_eq_some_iff.1 ht).1
  have hl2:j<ds.length:=(List.getElem?_eq_some_iff.1 hd).1
  have:=List.all_eq_true.1 hsz n (DataW.weights_mem_each (j:=j) (by rw[List.getElem?_append_left hl1];exact ht) (by rw[List.getElem?_append_left hl2];exact hd) n hn)
  simpa using this
 rw[Tryz.params3]at hA hval hz0
 obtain⟨v0,vs0,d0,ds0,p0,q0,hargs,rfl,rfl,h0,r0⟩:=trodAll_cons hA
 obtain⟨rfl,rfl,rfl⟩:=trodAll_nil r0
 obtain rfl:args= #[v0]:=by cases args;simp_all
 obtain⟨rfl,rfl⟩:=trodVars_none hV
 obtain⟨_,g0,b,e0⟩:=arg_one (by kernel_rfl) (hval 0 _ v0 rfl rfl) h0 (hz0 0 _ d0 rfl rfl) rd_byte
 cases e0
 refine(Pure.calls (large_ok b) (globOK hL hsh) (RL.cons g0 RL.nil)).mono fun e W' ⟨he,hb⟩=> ?_
 subst he
 exact⟨_,rfl,post_true laidOut (by kernel_rfl) rfl ⟨rfl,rfl,rfl⟩ rfl Tryz.underlying4 hW' hb⟩
theorem over:Rows.parserLargeRow.holds Tryz.pinned (OpenSpec.ofChange Rows.parserLargeSpec):=
 OpenClaim.holds_of_wide 3 Tryz.f3 rfl rfl rfl rfl rfl rfl rfl ⟨rfl,rfl,rfl,rfl,rfl⟩ rfl rfl rfl rfl rfl (by kernel_rfl) Tryz.func3 (by kernel_rfl)
  (of_decide_eq_true (by kernel_rfl)) (by unfold Func.isWrapper;first|(rw[if_pos (by decide+kernel)];kernel_rfl)|(rw[if_neg (by decide+kernel)];exact⟨rfl,rfl⟩))
  (fun os started H enc _=>lifted os started H enc)
theorem proved:Rows.ParserLargeCardSaid:=
 Claim7.holds_tied_plain_at .later [] [.data,.data,.data,.data,.sentinel,.sentinel,.data,.pinned] true (true, "76423096e73d39dfa473cfe6342f6749cbc65ada8e362117fc4b3dcaca5d36b5") true over (fun _ h=>by cases h) (by kernel_rfl) (fun _ h=>by cases h) parserLarge_row_tie rfl ⟨rfl,rfl⟩ (by kernel_rfl) rfl
  (fun f fn hf hfn=>by
   obtain rfl:f=3:=Option.some.inj ((show Tryz.prog.funcNamed "asof/asoflaw09.ParserLarge" =some 3 by kernel_rfl).symm.trans hf) |>.symm
   obtain rfl:fn=Tryz.f3:=(Option.some.inj (Tryz.func3.symm.trans hfn)).symm
   exact⟨by kernel_rfl,fun j t ht=>by
    rw[Tryz.params3]at ht
    have hm:t∈[5]:=by simpa using Array.mem_of_getElem? ht
    have hall:([5].all fun u=> !Tryz.prog.wantsStandIn u)=true:=by kernel_rfl
    exact(show Tryz.prog.wantsStandIn t=false by simpa using List.all_eq_true.1 hall t hm)⟩)
  (by kernel_rfl)
end Go.Proofs.YtdcpcffpapiadaaGreatDoor.parserLarge
