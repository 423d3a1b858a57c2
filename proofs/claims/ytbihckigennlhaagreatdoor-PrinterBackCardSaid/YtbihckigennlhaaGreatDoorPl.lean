/- Texts of expressions: the walk through the printer. -/
import Derived.Test.YtbihckigennlhaaGreatDoorPc
import Derived.Test.YtbihckigennlhaaGreatDoorZa
import Derived.Test.YtbihckigennlhaaGreatDoorZf
import Derived.Test.YtbihckigennlhaaGreatDoorWi
import Derived.Test.YtbihckigennlhaaGreatDoorTm
import Derived.Test.YtbihckigennlhaaGreatDoorSxB
import Derived.Test.YtbihckigennlhaaGreatDoorRows
import Derived.Lib.LaidU8
import Derived.LaidLaws
import Derived.Shelf.Vars
import Derived.HandedShaped
set_option linter.unusedSimpArgs false
set_option linter.unusedVariables false
set_option maxRecDepth 100000
set_option maxHeartbeats 4000000
namespace Go.Proofs.YtbihckigennlhaaGreatDoor
open Go.Sx Go.Proofs
theorem rank_ok(x:Ex):Pure Tryz.prog 128 [.agg x.row] (iv (rank x)):=by
 rw[Ex.row_eq x]
 refine Pure.runk (fun _=>0) Tryz.func128 comp128 era128 (Nat.le_of_ble_eq_true rfl) fun σ=> ?_
 repeat'(first|exact .nil|refine .k0 ?_|refine .k1 ?_|refine .k2 ?_|refine .k6 ?_|refine .k7 ?_|refine .k9 ?_|(refine .cd ?_ ?_<;>(intro hc;first|exact kf hc (by assumption)|skip))|refine .r1 ?_ ?_|(refine .m1 ?_ ?_;intro b)|fail)
 all_goals(try simp only[BL]at *)
 all_goals(refine Sx.Fin.intro Zs (bi ?_);unfold rank;grind)
theorem window_ok(x:Ex)(h:winOK x.win):Pure Tryz.prog 127 [.agg x.row] (sv (winT x.win)):=by
 have hw:0≤x.win.size∧x.win.size≤1099511627776:=by unfold winOK at h;omega
 have hz:=itoa_size x.win.size (by omega)
 have hi:=itoa_int hw.1
 rw[Ex.row_eq x]
 refine Pure.runk (fun _=>0) Tryz.func127 comp127 era127 (Nat.le_of_ble_eq_true rfl) fun σ=> ?_
 repeat'(first|exact .nil|refine .k0 ?_|refine .k1 ?_|refine .k2 ?_|refine .k6 ?_|refine .k7 ?_|refine .k9 ?_|(refine .cd ?_ ?_<;>(intro hc;skip))|refine .r1 ?_ ?_|(refine .m1 ?_ ?_;intro b)|refine .an rfl (by intro hob;first|exact itoa_ok _ (by first|omega|fail)|exact join_ok' _ rfl (Nat.le_of_ble_eq_true rfl) (by simp only[lenS,szl,List.size_toArray,List.length_cons,List.length_nil];omega)|fail) ?_ ?_|fail)
 all_goals(try simp only[BL]at *)
 any_goals((simp only[List.length_cons,List.length_nil,List.length_append,List.length_map,List.length_take,app_size,szl,str_len,List.size_toArray];omega))
 all_goals(refine Sx.Fin.intro Zs (bs ?_);simp[winT,catS,app_nil, *];done)
theorem literal_ok(x:Ex)(h:litOK x):Pure Tryz.prog 80 [.agg x.row] (sv (litT x)):=by
 have hv:VOK x.val:=⟨h.1,h.2.1⟩
 have hk:=hv.kinds
 have hs:=valS_size hv
 obtain⟨hl,hu,ho⟩:=tyErr_unit h.2.2.1
 have hl:x.unit.length≤4:=hl
 have hu:∀ f∈x.unit,FacOK f:=hu
 have ho:x.name.size≤24:=ho
 have hz:=unitT_size hu hl
 rw[Ex.row_eq x]
 refine Pure.runk (fun _=>0) Tryz.func80 comp80 era80 (Nat.le_of_ble_eq_true rfl) fun σ=> ?_
 repeat'(first|exact .nil|refine .k0 ?_|refine .k1 ?_|refine .k2 ?_|refine .k5 ?_|refine .k7 ?_|refine .k9 ?_|(refine .cd ?_ ?_<;>(intro hc;skip))|refine .r1 ?_ ?_|(refine .m1 ?_ ?_;intro b)|refine .an rfl (by intro hob;first|exact unit_ok x.unit hu hl|exact format_ok x.val hv|exact join_ok' _ rfl (Nat.le_of_ble_eq_true rfl) (by simp only[lenS,szl,List.size_toArray,List.length_cons,List.length_nil];omega)) ?_ ?_|fail)
 all_goals(try simp only[BL]at *)
 any_goals((simp only[List.length_cons,List.length_nil,List.length_append,List.length_map,List.length_take,app_size,szl,str_len,List.size_toArray];omega))
 all_goals(refine Sx.Fin.intro Zs (bs ?_);simp[litT,catS,app_nil,app_assoc, *];done)
theorem nameN_ok(x:Ex):Pure Tryz.prog 81 [.agg x.row] (sv x.name):=by
 rw[Ex.row_eq x]
 refine Pure.runk (fun _=>0) Tryz.func81 comp81 era81 (Nat.le_of_ble_eq_true rfl) fun σ=> ?_
 repeat'(first|exact .nil|refine .k0 ?_|refine .k1 ?_|refine .k2 ?_|refine .k7 ?_|refine .r1 ?_ ?_|(refine .m1 ?_ ?_;intro b)|fail)
 all_goals(try simp only[BL]at *)
 all_goals exact Sx.Fin.intro Zs rfl
structure Kids(x:Ex)(F:FuncId):Prop where
 t:∀ i,i<x.args.length→Pure Tryz.prog F [.agg (x.args.getD i default).row] (sv (tx x i))
 z:∀ i,i<x.args.length→(tx x i).size≤100000
theorem atF_len{x:Ex}{F:FuncId}(h:Kids x F){i:Nat}{r:Int}(hi:i<x.args.length):(atF x (tx x) i r).size≤100002:=by
 have:=h.z i hi
 have:= @atF_size x (tx x) i r
 omega
theorem arg_ok(x:Ex)(h:Kids x 39)(i:Nat)(hi:i<x.args.length)(r:Int):Pure Tryz.prog 126 [.agg x.row,iv i,iv r] (sv (atF x (tx x) i r)):=by
 have hz:=h.z i hi
 rw[Ex.row_eq x]
 refine Pure.runk (fun _=>0) Tryz.func126 comp126 era126 (Nat.le_of_ble_eq_true rfl) fun σ=> ?_
 repeat'(first|exact .nil|refine .k0 ?_|refine .k1 ?_|refine .k2 ?_|refine .k7 ?_|refine .k9 ?_|(refine .cd ?_ ?_<;>(intro hc;skip))|refine .r1 ?_ ?_|(refine .l1 ?_;intro b)|(refine .m1 ?_ ?_;intro b)|refine .t1 ?_ ?_ ?_|refine .an rfl (by intro hob;first|exact rank_ok (x.args.getD i default)|exact h.t i hi|exact join_ok' _ rfl (Nat.le_of_ble_eq_true rfl) (by simp only[lenS,szl,List.size_toArray,List.length_cons,List.length_nil];omega)) ?_ ?_|fail)
 try any_goals(exact Zo)
 all_goals(try simp only[BL]at *)
 any_goals((simp only[List.length_cons,List.length_nil,List.length_append,List.length_map,List.length_take,app_size,szl,str_len,List.size_toArray];omega))
 all_goals(refine Sx.Fin.intro Zs (bs ?_);first|(rw[atF,if_pos hc];simp only[par,catS,app_nil];done)|(rw[atF,if_neg hc];done))
theorem atF_0(x:Ex)(T:Nat→Str)(i:Nat):atF x T i 0=T i:=if_neg (by have:=(rankX_le (x.args.getD i default)).1;omega)
theorem app_nil'(a:Str):(⟨#[]⟩:Str)++a=a:=str_ext (by simp)
theorem lookup_ok(x:Ex)(h:Kids x 39)(hl:x.args.length=1)(hn:x.name.size≤24):Pure Tryz.prog 82 [.agg x.row] (sv (x.name++(⟨#[32,111,102,32,40]⟩++(tx x 0++⟨#[41]⟩)))):=by
 have hz:= @atF_len x _ h 0 0 (by omega)
 have h0:=atF_0 x (tx x) 0
 rw[Ex.row_eq x]
 refine Pure.runk (fun _=>0) Tryz.func82 comp82 era82 (Nat.le_of_ble_eq_true rfl) fun σ=> ?_
 repeat'(first|exact .nil|refine .k0 ?_|refine .k1 ?_|refine .k2 ?_|refine .k5 ?_|refine .k7 ?_|refine .r1 ?_ ?_|(refine .m1 ?_ ?_;intro b)|refine .an rfl (by intro hob;first|(refine(arg_ok x h 0 (by omega) 0).wk ?_;(repeat' first|exact .row|exact .refl _|refine .cons ?_ ?_|refine .agg ?_|fail);done)|exact join_ok' _ rfl (Nat.le_of_ble_eq_true rfl) (by simp only[lenS,szl,List.size_toArray,List.length_cons,List.length_nil,catS_size];omega)) ?_ ?_|fail)
 all_goals(try simp only[BL]at *)
 any_goals((simp only[List.length_cons,List.length_nil,List.length_append,List.length_map,List.length_take,app_size,szl,str_len,List.size_toArray];omega))
 all_goals(refine Sx.Fin.intro Zs (bs ?_);simp[catS,app_nil, *];done)
theorem choice_ok(x:Ex)(h:Kids x 39)(hl:x.args.length=3):Pure Tryz.prog 86 [.agg x.row] (sv (ifT x (tx x))):=by
 have hz:= @atF_len x _ h 0 0 (by omega)
 have hz1:= @atF_len x _ h 1 0 (by omega)
 have hz2:= @atF_len x _ h 2 0 (by omega)
 have h0:=atF_0 x (tx x) 0
 have h1:=atF_0 x (tx x) 1
 have h2:=atF_0 x (tx x) 2
 rw[Ex.row_eq x]
 refine Pure.runk (fun _=>0) Tryz.func86 comp86 era86 (Nat.le_of_ble_eq_true rfl) fun σ=> ?_
 repeat'(first|exact .nil|refine .k0 ?_|refine .k1 ?_|refine .k2 ?_|refine .k5 ?_|refine .k7 ?_|refine .r1 ?_ ?_|(refine .m1 ?_ ?_;intro b)|refine .an rfl (by intro hob;first|(refine(arg_ok x h 0 (by omega) 0).wk ?_;(repeat' first|exact .row|exact .refl _|refine .cons ?_ ?_|refine .agg ?_|fail);done)|(refine(arg_ok x h 1 (by omega) 0).wk ?_;(repeat' first|exact .row|exact .refl _|refine .cons ?_ ?_|refine .agg ?_|fail);done)|(refine(arg_ok x h 2 (by omega) 0).wk ?_;(repeat' first|exact .row|exact .refl _|refine .cons ?_ ?_|refine .agg ?_|fail);done)|exact join_ok' _ rfl (Nat.le_of_ble_eq_true rfl) (by simp only[lenS,szl,List.size_toArray,List.length_cons,List.length_nil,catS_size];omega)) ?_ ?_|fail)
 all_goals(try simp only[BL]at *)
 any_goals((simp only[List.length_cons,List.length_nil,List.length_append,List.length_map,List.length_take,app_size,szl,str_len,List.size_toArray];omega))
 all_goals(refine Sx.Fin.intro Zs (bs ?_);simp[ifT,catS,app_nil, *];done)
theorem fallback_ok(x:Ex)(h:Kids x 39)(hl:x.args.length=2):Pure Tryz.prog 87 [.agg x.row] (sv (defT x (tx x))):=by
 have hz:= @atF_len x _ h 0 1 (by omega)
 have hz1:= @atF_len x _ h 1 2 (by omega)
 rw[Ex.row_eq x]
 refine Pure.runk (fun _=>0) Tryz.func87 comp87 era87 (Nat.le_of_ble_eq_true rfl) fun σ=> ?_
 repeat'(first|exact .nil|refine .k0 ?_|refine .k1 ?_|refine .k2 ?_|refine .k5 ?_|refine .k7 ?_|refine .r1 ?_ ?_|(refine .m1 ?_ ?_;intro b)|refine .an rfl (by intro hob;first|(refine(arg_ok x h 0 (by omega) 1).wk ?_;(repeat' first|exact .row|exact .refl _|refine .cons ?_ ?_|refine .agg ?_|fail);done)|(refine(arg_ok x h 1 (by omega) 2).wk ?_;(repeat' first|exact .row|exact .refl _|refine .cons ?_ ?_|refine .agg ?_|fail);done)|exact join_ok' _ rfl (Nat.le_of_ble_eq_true rfl) (by simp only[lenS,szl,List.size_toArray,List.length_cons,List.length_nil,catS_size];omega)) ?_ ?_|fail)
 all_goals(try simp only[BL]at *)
 any_goals((simp only[List.length_cons,List.length_nil,List.length_append,List.length_map,List.length_take,app_size,szl,str_len,List.size_toArray];omega))
 all_goals(refine Sx.Fin.intro Zs (bs ?_);simp[defT,catS,app_nil, *];done)
theorem unary_ok(x:Ex)(h:Kids x 39)(hl:x.args.length=1):Pure Tryz.prog 84 [.agg x.row] (sv (unT x (tx x))):=by
 have hz:= @atF_len x _ h 0 0 (by omega)
 have hz1:= @atF_len x _ h 0 8 (by omega)
 have hz2:= @atF_len x _ h 0 4 (by omega)
 have h0:=atF_0 x (tx x) 0
 rw[Ex.row_eq x]
 refine Pure.runk (fun _=>0) Tryz.func84 comp84 era84 (Nat.le_of_ble_eq_true rfl) fun σ=> ?_
 repeat'(first|exact .nil|refine .k0 ?_|refine .k1 ?_|refine .k2 ?_|refine .k6 ?_|refine .k7 ?_|refine .k9 ?_|(refine .cd ?_ ?_<;>(intro hc;skip))|refine .r1 ?_ ?_|(refine .m1 ?_ ?_;intro b)|refine .an rfl (by intro hob;first|(refine(arg_ok x h 0 (by omega) 0).wk ?_;(repeat' first|exact .row|exact .refl _|refine .cons ?_ ?_|refine .agg ?_|fail);done)|(refine(arg_ok x h 0 (by omega) 8).wk ?_;(repeat' first|exact .row|exact .refl _|refine .cons ?_ ?_|refine .agg ?_|fail);done)|(refine(arg_ok x h 0 (by omega) 4).wk ?_;(repeat' first|exact .row|exact .refl _|refine .cons ?_ ?_|refine .agg ?_|fail);done)|exact join_ok' _ rfl (Nat.le_of_ble_eq_true rfl) (by simp only[lenS,szl,List.size_toArray,List.length_cons,List.length_nil,catS_size];omega)) ?_ ?_|fail)
 all_goals(try simp only[BL]at *)
 any_goals((simp only[List.length_cons,List.length_nil,List.length_append,List.length_map,List.length_take,app_size,szl,str_len,List.size_toArray];omega))
 all_goals(refine Sx.Fin.intro Zs (bs ?_);simp[unT,catS,app_nil, *];done)
theorem binary_ok(x:Ex)(h:Kids x 39)(hl:x.args.length=2)(ho:x.op.size≤8):Pure Tryz.prog 85 [.agg x.row] (sv (binT x (tx x))):=by
 have hz:= @atF_len x _ h 0 (rank x) (by omega)
 have hz1:= @atF_len x _ h 0 (IntKind.i64.wrap (rank x+1)) (by omega)
 have hz2:= @atF_len x _ h 1 (IntKind.i64.wrap (rank x+1)) (by omega)
 have hr:=rankX_le x
 rw[Ex.row_eq x]
 refine Pure.runk (fun _=>0) Tryz.func85 comp85 era85 (Nat.le_of_ble_eq_true rfl) fun σ=> ?_
 repeat'(first|exact .nil|refine .k0 ?_|refine .k1 ?_|refine .k2 ?_|refine .k5 ?_|refine .k7 ?_|refine .k9 ?_|(refine .cd ?_ ?_<;>(intro hc;skip))|refine .r1 ?_ ?_|(refine .m1 ?_ ?_;intro b)|refine .an rfl (by intro hob;first|(refine(rank_ok x).wk ?_;(repeat' first|exact .row|exact .refl _|refine .cons ?_ ?_|refine .agg ?_|fail);done)|(refine(arg_ok x h 0 (by omega) (rank x)).wk ?_;(repeat' first|exact .row|exact .refl _|refine .cons ?_ ?_|refine .agg ?_|fail);done)|(refine(arg_ok x h 0 (by omega) (IntKind.i64.wrap (rank x+1))).wk ?_;(repeat' first|exact .row|exact .refl _|refine .cons ?_ ?_|refine .agg ?_|fail);done)|(refine(arg_ok x h 1 (by omega) (IntKind.i64.wrap (rank x+1))).wk ?_;(repeat' first|exact .row|exact .refl _|refine .cons ?_ ?_|refine .agg ?_|fail);done)|exact join_ok' _ rfl (Nat.le_of_ble_eq_true rfl) (by simp only[lenS,szl,List.size_toArray,List.length_cons,List.length_nil,catS_size];omega)) ?_ ?_|fail)
 all_goals(try simp only[BL]at *)
 any_goals((simp only[List.length_cons,List.length_nil,List.length_append,List.length_map,List.length_take,app_size,szl,str_len,List.size_toArray];omega))
 all_goals(refine Sx.Fin.intro Zs (bs ?_);have hw:IntKind.i64.wrap (rank x+1)=rank x+1:=i64w (by omega)
           rw[hw];unfold binT leftR;first|(simp only[hc,catS,app_nil,if_true,if_false];done)|(simp only[hc,catS,app_nil,if_true,if_false];rfl))
theorem tru_iff{y:Ex}{q:Bool}(hf:form q y=true):y=tru↔y.kind=1∧y.val.kind=1∧y.val.n=1∧y.val.s=⟨#[]⟩:=by
 constructor
 ·rintro rfl;exact⟨rfl,rfl,rfl,rfl⟩
 ·rintro⟨h1,h2,h3,h4⟩
  refine form_lit hf ?_
  have hb:=(FOK.of hf).nb
  unfold nodeB at hb
  rw[if_pos h1]at hb
  obtain⟨e1,e2,e3,e4⟩:=hb
  have hu:y.unit=[]∧y.name=⟨#[]⟩:=by
   unfold tyErr at e3
   split at e3
   ·omega
   ·rename_i h
    simp only[Num]at h
    constructor
    ·exact Decidable.not_not.1 fun h'=>h (.inr (.inr (.inl ⟨h',by omega⟩)))
    ·exact Decidable.not_not.1 fun h'=>h (.inr (.inr (.inr (.inr ⟨by omega,h'⟩))))
  obtain⟨f1,f2,f3,f4,f5,f6,f7,f8⟩:=e4
  exact⟨h1,f2,hu.2,f4,val_eq.2 ⟨h2,h3,h4⟩,hu.1,f7,f8⟩
theorem aggregate_ok(x:Ex)(h:Kids x 39)(hl:x.args.length=2)(ho:x.op.size≤8)(ht:x.table.size≤24)(hw:winOK x.win)(hp:0≤x.param∧x.param≤1073741824)(hf:form true (x.args.getD 1 default)=true):Pure Tryz.prog 83 [.agg x.row] (sv (aggT x (tx x))):=by
 have hz:= @atF_len x _ h 0 0 (by omega)
 have hz1:= @atF_len x _ h 1 0 (by omega)
 have h0:=atF_0 x (tx x) 0
 have h1:=atF_0 x (tx x) 1
 have hi:=itoa_int hp.1
 have hz3:=itoa_size x.param (by omega)
 have hz4:=winT_size hw
 rw[Ex.row_eq x]
 refine Pure.runk (fun _=>0) Tryz.func83 comp83 era83 (Nat.le_of_ble_eq_true rfl) fun σ=> ?_
 repeat'(first|exact .nil|refine .k0 ?_|refine .k1 ?_|refine .k2 ?_|refine .k4 ?_|refine .k7 ?_|refine .k9 ?_|(refine .cd ?_ ?_<;>(intro hc;skip))|refine .r1 ?_ ?_|(refine .l1 ?_;intro b)|(refine .m1 ?_ ?_;intro b)|refine .t1 ?_ ?_ ?_|refine .an rfl (by intro hob;first|(refine(window_ok x hw).wk ?_;(repeat' first|exact .row|exact .refl _|refine .cons ?_ ?_|refine .agg ?_|fail);done)|exact itoa_ok _ (by first|omega|fail)|(refine(arg_ok x h 0 (by omega) 0).wk ?_;(repeat' first|exact .row|exact .refl _|refine .cons ?_ ?_|refine .agg ?_|fail);done)|(refine(arg_ok x h 1 (by omega) 0).wk ?_;(repeat' first|exact .row|exact .refl _|refine .cons ?_ ?_|refine .agg ?_|fail);done)|exact join_ok' _ rfl (Nat.le_of_ble_eq_true rfl) (by simp only[lenS,szl,List.size_toArray,List.length_cons,List.length_nil,catS_size];omega)) ?_ ?_|fail)
 try any_goals(exact Zo)
 all_goals(try simp only[BL]at *)
 any_goals((simp only[List.length_cons,List.length_nil,List.length_append,List.length_map,List.length_take,app_size,szl,str_len,List.size_toArray];omega))
 try any_goals(simp only[catS_size,lenS,szl,List.size_toArray,List.length_cons,List.length_nil];omega)
 all_goals(refine Sx.Fin.intro Zs (bs ?_);have hy:=tru_iff hf;unfold aggT cnt;repeat' split
           all_goals first|(exfalso;grind)|(simp only[catS,app_nil,app_nil',app_assoc,h0,h1,hi];done))
theorem text_disp (x:Ex) (r:Str) (h:(x.kind=1∧Pure Tryz.prog 80 [.agg x.row] (sv r))
  ∨(x.kind=2∧Pure Tryz.prog 81 [.agg x.row] (sv r))∨(x.kind=3∧Pure Tryz.prog 81 [.agg x.row] (sv r))
  ∨(x.kind=4∧Pure Tryz.prog 82 [.agg x.row] (sv r))∨(x.kind=5∧Pure Tryz.prog 83 [.agg x.row] (sv r))
  ∨(x.kind=6∧Pure Tryz.prog 84 [.agg x.row] (sv r))∨(x.kind=7∧Pure Tryz.prog 85 [.agg x.row] (sv r))
  ∨(x.kind=8∧Pure Tryz.prog 86 [.agg x.row] (sv r))∨(x.kind=9∧Pure Tryz.prog 87 [.agg x.row] (sv r))):
  Pure Tryz.prog 39 [.agg x.row] (sv r):=by
 obtain⟨k,o,nm,t,v,u,p,w,ks⟩:=x
 simp only[Ex.kind]at h
 rcases h with⟨rfl,hC⟩|⟨rfl,hC⟩|⟨rfl,hC⟩|⟨rfl,hC⟩|⟨rfl,hC⟩|⟨rfl,hC⟩|⟨rfl,hC⟩|⟨rfl,hC⟩|⟨rfl,hC⟩
 all_goals rw[Ex.row_eq]
 all_goals rw[Ex.row_eq]at hC
 all_goals refine Pure.runk (fun _=>0) Tryz.func39 comp39 era39 (Nat.le_of_ble_eq_true rfl) fun σ=> ?_
 repeat'(first|exact .nil|refine .k0 ?_|refine .k1 ?_|refine .k2 ?_|refine .k7 ?_|refine .r1 ?_ ?_|(refine .m1 ?_ ?_;intro b)|refine .an rfl (by intro hob;(refine hC.wk ?_;(repeat' first|exact .refl _|fail);done)) ?_ ?_|(refine .l3 ?_;intro b)|refine .r6 ?_ ?_|refine .r7 ?_ ?_|fail)
 all_goals(try simp only[BL]at *)
 all_goals exact Sx.Fin.intro Zs rfl
theorem kinds_of{x:Ex}{ins:Bool}(h:nodeB x ins):1≤x.kind∧x.kind≤9:=by
 unfold nodeB at h
 repeat' split at h
 all_goals first|omega|exact h.elim
theorem parts{x:Ex}{ins:Bool}(h:FOK x ins):
  (x.kind=1→litOK x∧x.args.length=0)∧(x.kind=2∨x.kind=3→namOK x∧x.args.length=0)∧(x.kind=4→namOK x∧x.args.length=1)∧(x.kind=5→aggOK x∧x.args.length=2)
  ∧(x.kind=6→x.args.length=1∧∃ y∈unL,x.op=y)∧(x.kind=7→x.args.length=2∧∃ y∈binL,x.op=y)∧(x.kind=8→x.args.length=3)∧(x.kind=9→x.args.length=2):=by
 have hb:=h.nb
 have hn:=h.nn
 unfold nodeB at hb
 unfold nodeN at hn
 refine⟨fun e=> ?_,fun e=> ?_,fun e=> ?_,fun e=> ?_,fun e=> ?_,fun e=> ?_,fun e=> ?_,fun e=> ?_⟩
 all_goals grind
theorem par_le{x:Ex}(h:parOK x):0≤x.param∧x.param≤1073741824:=by
 unfold parOK at h
 repeat' split at h
 all_goals omega
theorem nodeText_ok(x:Ex):∀ ins,form ins x=true→x.size≤100→Pure Tryz.prog 39 [.agg x.row] (sv (text x)):=by
 induction x using Ex.ind with
 |h x ih=>
 intro ins hf hs
 have h:=FOK.of hf
 have hk:Kids x 39:=by
  constructor
  ·intro i hi
   have:=Ex.size_lt (getD_mem hi)
   rw[tx_at hi]
   exact ih _ (getD_mem hi) _ (h.sub _ (getD_mem hi)) (by omega)
  ·intro i hi
   have:=Ex.size_lt (getD_mem hi)
   rw[tx_at hi]
   exact Nat.le_trans (text_size _ _ (h.sub _ (getD_mem hi))) (by omega)
 obtain⟨p1,p2,p4,p5,p6,p7,p8,p9⟩:=parts h
 have hr:=kinds_of h.nb
 refine text_disp x (text x) ?_
 rw[text_eq]
 unfold textF
 have:x.kind=1∨x.kind=2∨x.kind=3∨x.kind=4∨x.kind=5∨x.kind=6∨x.kind=7∨x.kind=8∨x.kind=9:=by omega
 rcases this with e|e|e|e|e|e|e|e|e
 ·rw[if_pos e];exact .inl ⟨e,literal_ok x (p1 e).1⟩
 ·simp only[e,Int.reduceEq,if_false];exact .inr (.inl ⟨trivial,nameN_ok x⟩)
 ·simp only[e,Int.reduceEq,if_false];exact .inr (.inr (.inl ⟨trivial,nameN_ok x⟩))
 ·simp only[e,Int.reduceEq,if_false,if_true];exact .inr (.inr (.inr (.inl ⟨trivial,lookup_ok x hk (p4 e).2 (p4 e).1.1.1.2.1⟩)))
 ·have hA:=(p5 e).1
  obtain⟨⟨y,hy,ho⟩,ht,hw,hp, -⟩:=hA
  have e1:=aggL_size y hy
  rw[← ho]at e1
  have hl:=(p5 e).2
  have h1:=h.sub _ (getD_mem (i:=1) (by omega))
  rw[e]at h1
  simp only[e,Int.reduceEq,if_false,if_true]
  exact .inr (.inr (.inr (.inr (.inl ⟨trivial,aggregate_ok x hk hl e1 ht.1.2.1 hw (par_le hp) (by simpa using h1)⟩))))
 ·simp only[e,Int.reduceEq,if_false,if_true];exact .inr (.inr (.inr (.inr (.inr (.inl ⟨trivial,unary_ok x hk (p6 e).1⟩)))))
 ·obtain⟨hl,y,hy,ho⟩:=p7 e
  have e1:=binL_size y hy
  rw[← ho]at e1
  simp only[e,Int.reduceEq,if_false,if_true]
  exact .inr (.inr (.inr (.inr (.inr (.inr (.inl ⟨trivial,binary_ok x hk hl e1⟩))))))
 ·simp only[e,Int.reduceEq,if_false,if_true];exact .inr (.inr (.inr (.inr (.inr (.inr (.inr (.inl ⟨trivial,choice_ok x hk (p8 e)⟩)))))))
 ·simp only[e,Int.reduceEq,if_false,if_true];exact .inr (.inr (.inr (.inr (.inr (.inr (.inr (.inr ⟨trivial,fallback_ok x hk (p9 e)⟩)))))))
theorem shape_form{x:Ex}(h:shape x=0):form false x=true:=by
 unfold shape at h
 split at h
 ·omega
 ·split at h
  ·assumption
  ·omega
def exprS(x:Ex):Str:=if shape x=0 then text x else⟨#[]⟩
def typeS(t:Ty):Str:=if tyErr t=0 then tyS t else⟨#[]⟩
theorem bse{a b:Str}{n m:Int}(h:a=b)(h2:n=m):AV.tup [.v (.string a),.v (.int .i64 n)]= .tup [sv b,iv m]:=by rw[h,h2]
theorem exprX_ok(x:Ex)(hs:x.size≤100):Pure Tryz.prog 10 [.agg x.row] (.tup [sv (exprS x),iv (shape x)]):=by
 rw[Ex.row_eq x]
 refine Pure.runk (fun _=>0) Tryz.func10 comp10 era10 (Nat.le_of_ble_eq_true rfl) fun σ=> ?_
 repeat'(first|exact .nil|refine .k0 ?_|refine .k1 ?_|refine .k2 ?_|refine .k7 ?_|refine .k9 ?_|(refine .cd ?_ ?_<;>(intro hc;skip))|refine .r1 ?_ ?_|(refine .m1 ?_ ?_;intro b)|refine .an rfl (by intro hob;first|(refine(shape_ok x (by omega)).wk ?_;(repeat' first|exact .row|exact .refl _|refine .cons ?_ ?_|refine .agg ?_|fail);done)|(refine(nodeText_ok x false (shape_form (by(simp only[BL]at *;omega))) hs).wk ?_;(repeat' first|exact .row|exact .refl _|refine .cons ?_ ?_|refine .agg ?_|fail);done)|fail) ?_ ?_|fail)
 all_goals(try simp only[BL]at *)
 all_goals(refine Sx.Fin.intro Zs (bse ?_ ?_)<;>first|rfl|exact(if_neg hc).symm|exact(if_pos hc).symm|exact hc.symm)
theorem tyErr_facs{t:Ty}(h:tyErr t=0):(∀ f∈t.unit,FacOK f)∧t.unit.length≤4∧t.of.size≤100:=by
 obtain⟨h1,h2,h3⟩:=tyErr_unit h
 exact⟨h2,h1,by omega⟩
theorem typeP_ok(t:Ty):Pure Tryz.prog 21 [.agg t.cells] (.tup [sv (typeS t),iv (tyErr t)]):=by
 refine Pure.runk (fun _=>0) Tryz.func21 comp21 era21 (Nat.le_of_ble_eq_true rfl) fun σ=> ?_
 repeat'(first|exact .nil|refine .k0 ?_|refine .k1 ?_|refine .k2 ?_|refine .k7 ?_|refine .k9 ?_|(refine .cd ?_ ?_<;>(intro hc;skip))|refine .r1 ?_ ?_|(refine .m1 ?_ ?_;intro b)|refine .an rfl (by intro hob;first|exact type_ok t|exact kind_ok t (tyErr_facs (by(simp only[BL]at *;omega))).1 (tyErr_facs (by(simp only[BL]at *;omega))).2.1 (tyErr_facs (by(simp only[BL]at *;omega))).2.2|fail) ?_ ?_|fail)
 all_goals(try simp only[BL]at *)
 all_goals(refine Sx.Fin.intro Zs (bse ?_ ?_)<;>first|rfl|exact(if_neg hc).symm|exact(if_pos hc).symm|exact hc.symm)
theorem prints_ok(x:Ex)(hs:x.size≤100)(s:Str):Pure Tryz.prog 31 [.agg x.row,sv s] (.v (.bool (decide (exprS x=s∧shape x=0)))):=by
 rw[Ex.row_eq x]
 refine Pure.runk (fun _=>0) Tryz.func31 comp31 era31 (Nat.le_of_ble_eq_true rfl) fun σ=> ?_
 repeat'(first|exact .nil|refine .k0 ?_|refine .k1 ?_|refine .k2 ?_|refine .k4 ?_|refine .k7 ?_|refine .r1 ?_ ?_|(refine .m1 ?_ ?_;intro b)|refine .an rfl (by intro hob;(refine(exprX_ok x hs).wk ?_;(repeat' first|exact .row|exact .refl _|refine .cons ?_ ?_|refine .agg ?_|fail);done)) ?_ ?_|fail)
 all_goals(try simp only[BL]at *)
 all_goals(refine Sx.Fin.intro Zs (bd ?_);grind)
def nameE(s:Str):Ex:=⟨3,⟨#[]⟩,s,⟨#[]⟩,⟨0,0,⟨#[]⟩⟩,[],0,⟨0,0⟩,[]⟩
def fieldE(s:Str):Ex:=⟨2,⟨#[]⟩,s,⟨#[]⟩,⟨0,0,⟨#[]⟩⟩,[],0,⟨0,0⟩,[]⟩
def twoE(o:Str)(a b:Ex):Ex:=⟨7,o,⟨#[]⟩,⟨#[]⟩,⟨0,0,⟨#[]⟩⟩,[],0,⟨0,0⟩,[a,b]⟩
def oneE(o:Str)(a:Ex):Ex:=⟨6,o,⟨#[]⟩,⟨#[]⟩,⟨0,0,⟨#[]⟩⟩,[],0,⟨0,0⟩,[a]⟩
theorem nameE_ok(s:Str):Pure Tryz.prog 30 [sv s] (.agg (nameE s).row):=by
 refine Pure.runk (fun _=>0) Tryz.func30 comp30 era30 (Nat.le_of_ble_eq_true rfl) fun σ=> ?_
 repeat'(first|exact .nil|refine .k0 ?_|refine .k1 ?_|refine .k2 ?_|refine .k7 ?_|refine .r1 ?_ ?_|(refine .l1 ?_;intro b)|fail)
 all_goals(try simp only[BL]at *)
 ·refine Sx.Fin.wk Zs (Wk.agg ?_)
  show WkL _ (nameE s).lay
  unfold Ex.lay
  repeat' first|exact .refl _|exact .nil|refine .cons ?_ ?_|fail
theorem fieldE_ok(s:Str):Pure Tryz.prog 35 [sv s] (.agg (fieldE s).row):=by
 refine Pure.runk (fun _=>0) Tryz.func35 comp35 era35 (Nat.le_of_ble_eq_true rfl) fun σ=> ?_
 repeat'(first|exact .nil|refine .k0 ?_|refine .k1 ?_|refine .k2 ?_|refine .k7 ?_|refine .r1 ?_ ?_|(refine .l1 ?_;intro b)|fail)
 all_goals(try simp only[BL]at *)
 ·refine Sx.Fin.wk Zs (Wk.agg ?_)
  show WkL _ (fieldE s).lay
  unfold Ex.lay
  repeat' first|exact .refl _|exact .nil|refine .cons ?_ ?_|fail
theorem Wk_sle{n:Nat}{rows rows':List (List AV)}(h:rows=rows'):Wk (.sl true n rows) (.sl false n rows'):=h ▸ Wk.sl
theorem twoE_ok(o:Str)(y z:Ex):Pure Tryz.prog 32 [sv o,.agg y.row,.agg z.row] (.agg (twoE o y z).row):=by
 have e:[y.lay,z.lay]=List.map Ex.row [y,z]:=by show _=[y.row,z.row];rw[Ex.row_eq y,Ex.row_eq z];rfl
 rw[Ex.row_eq y,Ex.row_eq z,Ex.row_eq (twoE o y z)]
 refine Pure.runk (fun _=>0) Tryz.func32 comp32 era32 (Nat.le_of_ble_eq_true rfl) fun σ=> ?_
 repeat'(first|exact .nil|refine .k0 ?_|refine .k1 ?_|refine .k2 ?_|refine .k7 ?_|refine .r1 ?_ ?_|(refine .l1 ?_;intro b)|(refine .m1 ?_ ?_;intro b)|fail)
 all_goals(try simp only[BL]at *)
 any_goals exact Nat.le_of_ble_eq_true rfl
 ·refine Sx.Fin.wk Zs (Wk.agg ?_)
  repeat'(first|exact Wk.refl _|exact WkL.nil|exact Wk_sle e|refine WkL.cons ?_ ?_|exact Wk.nil)
theorem oneE_ok(o:Str)(y:Ex):Pure Tryz.prog 33 [sv o,.agg y.row] (.agg (oneE o y).row):=by
 have e:[y.lay]=List.map Ex.row [y]:=by show _=[y.row];rw[Ex.row_eq y];rfl
 rw[Ex.row_eq y,Ex.row_eq (oneE o y)]
 refine Pure.runk (fun _=>0) Tryz.func33 comp33 era33 (Nat.le_of_ble_eq_true rfl) fun σ=> ?_
 repeat'(first|exact .nil|refine .k0 ?_|refine .k1 ?_|refine .k2 ?_|refine .k7 ?_|refine .r1 ?_ ?_|(refine .l1 ?_;intro b)|(refine .m1 ?_ ?_;intro b)|fail)
 all_goals(try simp only[BL]at *)
 any_goals exact Nat.le_of_ble_eq_true rfl
 ·refine Sx.Fin.wk Zs (Wk.agg ?_)
  repeat'(first|exact Wk.refl _|exact WkL.nil|exact Wk_sle e|refine WkL.cons ?_ ?_|exact Wk.nil)
end Go.Proofs.YtbihckigennlhaaGreatDoor
namespace Go.Sx
structure At(P:Program)[Glob P](f:FuncId)(xs:List AV)(r:AV)(σ:Store):Prop where
 sp:Spec P f xs σ fun r' σ'=>r'= .ret r∧σ'=σ
theorem At.wk{P:Program}[Glob P]{f:FuncId}{xs bs:List AV}{r:AV}{σ:Store}(h:At P f bs r σ)(hw:WkL xs bs):At P f xs r σ:=
 ⟨fun M w0 w cs hI hR=>h.sp M w0 w cs hI (hw.sound hR)⟩
theorem callP_at{P:Program}[Glob P]{f:FuncId}{xs:List AV}{σ:Store}{K:AV→Store→Prop}{E:List PanicEntry→Store→Prop}{r:AV}(h:At P f xs r σ)(k:K r σ):CallP P f xs σ K E:=
 ⟨_,h.sp,fun _ _ ⟨e,e'⟩=>by cases e;subst e';exact k,fun _ _ ⟨e,_⟩=>by cases e⟩
theorem At.runk{P:Program}[Glob P][NoD P]{f:FuncId}{fn:Func}{fc:FC}{xs:List AV}{r:AV}{σ:Store}{a:AC}(cfg:Nat→Nat)(hf:P.funcs[f]? =some fn)(hc:compF P fn=some fc)(ha:fc.code=a.erase)(hlen:xs.length≤fc.N)
  (h:WK P fc.N cfg (pureQ fc.res r σ) a [] (argR 0 xs) σ):At P f xs r σ:=by
 have h1:=h.h.h
 rw[← ha]at h1
 refine⟨?_⟩
 have:=Spec.intro (Q:=fun r' σ'=>∃ x,r'= .ret x∧Wk x r∧Sub σ σ') hf hc hlen (h1.mono (fun e rg σ' hq=>by
  cases e with
  |normal=>obtain⟨x,h1,h2,h3⟩:=hq;exact⟨x,h1,x,rfl,h2,h3⟩
  |ret=>obtain⟨x,h1,h2,h3⟩:=hq;exact⟨x,h1,x,rfl,h2,h3⟩
  |_=>exact hq.elim))
 refine this.weak ?_
 rintro r' σ' ⟨x,rfl,h2,h3⟩
 exact⟨.ret r,σ,⟨rfl,rfl⟩,h3,h2⟩
section
variable {P:Program}[Glob P]{cfg:Nat→Nat}{K:Regs→Store→Prop}{E:List PanicEntry→Store→Prop}{σ:Store}{l:List CI}{d:Nat}{v:AV}{xr:XR}{ps:List Prop}{g:Option (Nat×Bool)}{og:Option Bool}{xs:List AV}{args:List Operand}
theorem VX_callA{f:FuncId}{r:AV}(h:argO xr g args=some (og,xs,ps))(hp:og.getD true=true→At P f xs r σ)(hps:OB ps)(k:VX P cfg l K E (putX og d r xr) σ):VX P cfg (⟨some d,.call f args,g⟩::l) K E xr σ:=by
 obtain⟨hc,he⟩:=argO_eq h
 refine VX_gen hc (fun hg=> ?_) (fun hg=> ?_)
 ·simp only[vcO,he hps hg]
  refine callP_at (hp hg) ?_
  rw[← putX_t hg];exact k.h
 ·rw[← putX_f hg (v:=r)];exact k.h
theorem VX_callvA{f:FuncId}{r fv:AV}{fo:Operand}{a c:Array Value}(h:argO xr g (fo::args)=some (og,fv::xs,ps))(hf:fnO fv=some (f,a,c))(hcl:callable P f=true)(hp:og.getD true=true→At P f (a.toList.map .v++xs++c.toList.map .v) r σ)(hps:OB ps)(k:VX P cfg l K E (putX og d r xr) σ):
  VX P cfg (⟨some d,.callv fo args,g⟩::l) K E xr σ:=by
 obtain⟨hc,he⟩:=argO_eq h
 refine VX_gen hc (fun hg=> ?_) (fun hg=> ?_)
 ·have:=he hps hg
  simp only[evs,List.cons.injEq]at this
  simp only[vcO,this.1,this.2,fnO_eq hf]
  refine⟨hcl,callP_at (hp hg) ?_⟩
  rw[← putX_t hg];exact k.h
 ·rw[← putX_f hg (v:=r)];exact k.h
end
theorem Wk.ptr(t b o:Nat):Wk (.v (.pointer (some ⟨b,o,none⟩))) (.lp t b o):=fun M x h=>by
 obtain rfl:=h.of_v
 exact .lp t b o
end Go.Sx
namespace Go.Proofs.YtbihckigennlhaaGreatDoor
open Go.Sx Go.Proofs
theorem sameName_ok(x f:Fld)(b:Nat)(τ:Store):At Tryz.prog 118 [.agg x.cells,.lp 4 b 0] (.v (.bool (decide (x.name=f.name)))) ((4,b,Blk.cells f.cells)::τ):=by
 refine At.runk (fun _=>0) Tryz.func118 comp118 era118 (Nat.le_of_ble_eq_true rfl) ?_
 repeat'(first|exact .nil|refine .k0 ?_|refine .k1 ?_|refine .k2 ?_|refine .k7 ?_|refine .r1 ?_ ?_|(refine .m1 ?_ ?_;intro b)|fail)
 all_goals(try simp only[BL]at *)
 ·exact Sx.Fin.intro Zs rfl
theorem indexT_ok(fs:List Fld)(f:Fld)(b:Nat)(τ:Store):At Tryz.prog 162 [.sl false 4 (fs.map Fld.cells),.v (.func (.func 118) #[] #[.pointer (some ⟨b,0,none⟩)])] (iv (firstIdx (fun x=>decide (x.name=f.name)) fs 0)) ((4,b,Blk.cells f.cells)::τ):=by
 refine At.runk (fun _=>0) Tryz.func162 comp162 era162 (Nat.le_of_ble_eq_true rfl) ?_
 repeat'(first|exact .nil|refine .k0 ?_|refine .k1 ?_|refine .k2 ?_|refine .k6 ?_|refine .r1 ?_ ?_|(refine .m2 ?_ ?_;intro hlen)|fail)
 all_goals(try simp only[BL]at *)
 refine WK_loop (fun n rg σ'=>∃ i:Nat,i≤fs.length∧n=fs.length-i∧(∀ j,j<i→¬(fs.getD j default).name=f.name)∧σ'=(4,b,Blk.cells f.cells)::τ∧rg=[(0,.sl false 4 (fs.map Fld.cells)),(1,.v (.func (.func 118) #[] #[.pointer (some ⟨b,0,none⟩)])),(7,iv fs.length),(8,iv i)]) fs.length rfl ⟨_,_,Zr,Zs,0,Nat.zero_le _,rfl,fun j hj=>absurd hj (by omega),rfl,rfl⟩ ?_
 rintro n _ _ ⟨i,hi,hn,hp,rfl,rfl⟩
 repeat'(first|exact .nil|refine .k0 ?_|refine .k1 ?_|refine .k2 ?_|refine .k6 ?_|refine .k7 ?_|refine .k8 ?_|refine .k9 ?_|(refine .cd ?_ ?_<;>(intro hc;skip))|refine .r1 ?_ ?_|refine .t1 ?_ ?_ ?_|fail)
 try any_goals(exact Zo)
 all_goals(try simp only[BL]at *)
 refine VX_callvA rfl rfl (by rfl) (fun _=>(sameName_ok (fs.getD i default) f b τ).wk (WkL.cons (Wk.refl _) (WkL.cons (Wk.ptr _ _ _) WkL.nil))) OB.nil ?_
 repeat'(first|exact .nil|refine .k0 ?_|refine .k1 ?_|refine .k2 ?_|refine .k7 ?_|refine .k9 ?_|(refine .cd ?_ ?_<;>(intro hc;skip))|refine .r1 ?_ ?_|fail)
 all_goals(try simp only[BL]at *)
 ·rw[firstIdx_at (p:=fun x:Fld=>decide (x.name=f.name)) (l:=fs) (k:=0) (i:=i) (fun j hj=>decide_eq_false (hp j hj)) (by omega) (decide_eq_true hc),Nat.zero_add]
  exact Zw
 ·refine⟨fs.length-(i+1),by omega,_,_,Zr,Zs,i+1,by omega,rfl,cons_lt hp hc,rfl,by rw[up1 (by omega) hlen]⟩
 ·rw[firstIdx_no (fun y hy=>decide_eq_false (take_all (p:=fun y:Fld=>¬y.name=f.name) (fun j hj=>hp j (by omega)) y hy))]
  exact Zw
theorem containsT_ok(fs:List Fld)(f:Fld)(b:Nat)(τ:Store):At Tryz.prog 117 [.sl false 4 (fs.map Fld.cells),.v (.func (.func 118) #[] #[.pointer (some ⟨b,0,none⟩)])] (.v (.bool (decide (∃ x∈fs,x.name=f.name)))) ((4,b,Blk.cells f.cells)::τ):=by
 refine At.runk (fun _=>0) Tryz.func117 comp117 era117 (Nat.le_of_ble_eq_true rfl) ?_
 repeat'(first|exact .nil|refine .k0 ?_|refine .k1 ?_|refine .k2 ?_|refine .r1 ?_ ?_|fail)
 all_goals(try simp only[BL]at *)
 refine VX_callA rfl (fun _=>indexT_ok fs f b τ) OB.nil ?_
 repeat'(first|exact .nil|refine .k0 ?_|refine .k1 ?_|refine .k7 ?_|refine .r1 ?_ ?_|fail)
 all_goals(try simp only[BL]at *)
 ·refine Sx.Fin.intro Zs (bd ?_)
  rw[decide_eq_true_eq,firstIdx_ge]
  simp only[decide_eq_true_eq]
def fldErr(prev:List Fld)(f:Fld):Int:=if¬Name f.name then 3 else if∃ x∈prev,x.name=f.name then 121 else tyErr f.type
def fldErrL:List Fld→List Fld→Int
 |_,[]=>0
 |prev,f::l=>if fldErr prev f=0 then fldErrL (prev++[f]) l else fldErr prev f
def tabErr(t:Tab):Int:=
 if¬(Name t.name∧Name t.entity∧0≤t.keep∧t.keep≤1099511627776)then 3 else if t.fields.length>8 then 2 else fldErrL [] t.fields
theorem fldErrL_step{u:List Fld}{i:Nat}(hi:i<u.length)(h:fldErr (u.take i) (u.getD i default)=0):fldErrL (u.take i) (u.drop i)=fldErrL (u.take (i+1)) (u.drop (i+1)):=by
 rw[drop_get hi,fldErrL,if_pos h,take_snoc hi]
theorem fldErrL_end{u:List Fld}{i:Nat}{e:Int}(hi:i<u.length)(h:fldErr (u.take i) (u.getD i default)=e)(he:e≠0):fldErrL (u.take i) (u.drop i)=e:=by
 rw[drop_get hi,fldErrL,if_neg (by rw[h];exact he),h]
theorem tableX_ok(t:Tab):Pure Tryz.prog 68 [.agg t.cells] (iv (tabErr t)):=by
 refine Pure.runk (fun _=>0) Tryz.func68 comp68 era68 (Nat.le_of_ble_eq_true rfl) fun σ=> ?_
 repeat'(first|exact .nil|refine .k0 ?_|refine .k1 ?_|refine .k2 ?_|refine .k4 ?_|refine .k6 ?_|refine .k7 ?_|refine .k9 ?_|(refine .cd ?_ ?_<;>(intro hc;skip))|refine .r1 ?_ ?_|(refine .m1 ?_ ?_;intro b)|(refine .m2 ?_ ?_;intro hlen)|refine .an rfl (by intro hob;first|exact name_ok _|fail) ?_ ?_|fail)
 try any_goals(exact Zo)
 all_goals(try simp only[BL]at *)
 ·refine Sx.Fin.intro Zs (bi ?_)
  unfold tabErr;rw[if_pos (by grind)]
 ·refine Sx.Fin.intro Zs (bi ?_)
  unfold tabErr;rw[if_neg (by grind),if_pos (by omega)]
 rename_i h1 h2
 have hu:tabErr t=fldErrL [] t.fields:=by unfold tabErr;rw[if_neg (by grind),if_neg (by omega)]
 refine WK_loop (fun n rg σ'=>∃ (i:Nat),i≤t.fields.length∧n=t.fields.length-i∧tabErr t=fldErrL (t.fields.take i) (t.fields.drop i)∧σ'=(1,b,Blk.cells t.cells)::σ∧rg=[(1,.lp 1 b 0),(31,.sl false 4 (t.fields.map Fld.cells)),(32,iv t.fields.length),(33,iv i)]) t.fields.length rfl ⟨_,_,Zr,Zs,0,Nat.zero_le _,rfl,hu,rfl,rfl⟩ ?_
 rintro n _ _ ⟨i,hi,hn,hp,rfl,rfl⟩
 repeat'(first|exact .nil|refine .k0 ?_|refine .k1 ?_|refine .k2 ?_|refine .k6 ?_|refine .k7 ?_|refine .k8 ?_|refine .k9 ?_|(refine .cd ?_ ?_<;>(intro hc;skip))|refine .r1 ?_ ?_|(refine .l1 ?_;intro b)|refine .t1 ?_ ?_ ?_|refine .t2 ?_ ?_ ?_|refine .an rfl (by intro hob;first|exact name_ok _|fail) ?_ ?_|fail)
 try any_goals(exact Zo)
 all_goals(try simp only[BL]at *)
 ·rw[hp,fldErrL_end (e:=3) (by omega) (if_pos hc) (by decide)]
  exact Zw
 refine VX_callA rfl (fun _=>containsT_ok (t.fields.take i) (t.fields.getD i default) _ _) OB.nil ?_
 repeat'(first|exact .nil|refine .k0 ?_|refine .k1 ?_|refine .k2 ?_|refine .k7 ?_|refine .k9 ?_|(refine .cd ?_ ?_<;>(intro hc;skip))|refine .r1 ?_ ?_|refine .an rfl (by intro hob;exact type_ok (t.fields.getD i default).type) ?_ ?_|fail)
 all_goals(try simp only[BL]at *)
 ·rw[hp,fldErrL_end (e:=121) (by omega) (by unfold fldErr;rw[if_neg (fun h=>h ‹_›),if_pos hc]) (by decide)]
  exact Zw
 ·rw[hp,fldErrL_end (by omega) (by unfold fldErr;rw[if_neg (fun h=>h ‹_›),if_neg ‹_›]) hc]
  exact Zw
 ·refine⟨t.fields.length-(i+1),by omega,_,_,Zr,Zs,i+1,by omega,rfl,?_,rfl,by rw[up1 (n:=t.fields.length) (by omega) (by assumption)]⟩
  rw[hp,fldErrL_step (by omega) (by unfold fldErr;rw[if_neg (fun h=>h ‹_›),if_neg ‹_›];exact hc)]
 ·rw[hp,List.drop_eq_nil_of_le (by omega),fldErrL]
  exact Zw
def fldS(f:Fld):Str:=⟨#[32]⟩++(f.name++(⟨#[58,32]⟩++tyS f.type))
def tabS(t:Tab):Str:=⟨#[116,97,98,108,101,32]⟩++(t.name++(⟨#[32,111,102,32]⟩++(t.entity++(⟨#[32,123]⟩++(joinS (t.fields.map fldS) ⟨#[44]⟩++(⟨#[32,125]⟩++((if t.keep=0 then⟨#[]⟩else⟨#[32,107,101,101,112,32]⟩++intS t.keep)++⟨#[59]⟩)))))))
theorem fldErrL_ok:∀ (l p:List Fld),fldErrL p l=0→∀ f∈l,Name f.name∧tyErr f.type=0
 |[],_,_,f,hf=>absurd hf (by simp)
 |g::l,p,h,f,hf=>by
  rw[fldErrL]at h
  split at h
  ·rename_i h0
   rcases List.mem_cons.1 hf with rfl|hf
   ·unfold fldErr at h0
    split at h0
    ·omega
    ·rename_i hn
     split at h0
     ·omega
     ·exact⟨Decidable.not_not.1 hn,h0⟩
   ·exact fldErrL_ok l _ h f hf
  ·rename_i h0;exact absurd h h0
structure TOK(t:Tab):Prop where
 n:t.name.size≤24
 e:t.entity.size≤24
 k:0≤t.keep∧t.keep≤1099511627776
 l:t.fields.length≤8
 f:∀ f∈t.fields,Name f.name∧tyErr f.type=0
theorem TOK.of{t:Tab}(h:tabErr t=0):TOK t:=by
 unfold tabErr at h
 split at h
 ·omega
 ·rename_i h1
  have h1:=Decidable.not_not.1 h1
  split at h
  ·omega
  ·exact⟨h1.1.1.2.1,h1.2.1.1.2.1,h1.2.2,by omega,fldErrL_ok _ _ h⟩
theorem tyS_size{t:Ty}(h:tyErr t=0):(tyS t).size≤220:=by
 obtain⟨hu,hl,ho⟩:=tyErr_facs h
 have:=unitT_size hu hl
 unfold tyS
 repeat' split
 all_goals first|decide|((simp only[List.length_cons,List.length_nil,List.length_append,List.length_map,List.length_take,app_size,szl,str_len,List.size_toArray];omega))
theorem fldS_size{f:Fld}(h:Name f.name∧tyErr f.type=0):(fldS f).size≤250:=by
 have h1:=tyS_size h.2
 have h2:=h.1.1.2.1
 unfold fldS
 ((simp only[List.length_cons,List.length_nil,List.length_append,List.length_map,List.length_take,app_size,szl,str_len,List.size_toArray];omega))
theorem tab_len{t:Tab}(h:TOK t):(Lib.join ((t.fields.map fldS).map (·.data.toList)) (⟨#[44]⟩:Str).data.toList).length≤3000:=by
 have h1:=join_len (t.fields.map fldS) ⟨#[44]⟩
 have h2:=lenS_map fldS 250 fun f hf=>fldS_size (h.f f hf)
 have h3:(⟨#[44]⟩:Str).size=1:=rfl
 rw[List.length_map,h3]at h1
 have:=h.l
 omega
theorem tab_size{t:Tab}(h:TOK t):(joinS (t.fields.map fldS) ⟨#[44]⟩).size≤3000:=tab_len h
theorem tab_fac{t:Tab}{i:Nat}(hT:TOK t)(h:i<t.fields.length):(∀ f∈(t.fields.getD i default).type.unit,FacOK f)∧(t.fields.getD i default).type.unit.length≤4∧(t.fields.getD i default).type.of.size≤100∧(t.fields.getD i default).name.size≤24∧(tyS (t.fields.getD i default).type).size≤220:=by
 have h1:=hT.f _ (getD_mem h)
 obtain⟨hu,hl,ho⟩:=tyErr_facs h1.2
 exact⟨hu,hl,ho,h1.1.1.2.1,tyS_size h1.2⟩
theorem fldS_cat(f:Fld):catS [⟨#[32]⟩,f.name,⟨#[58,32]⟩,tyS f.type]=fldS f:=by simp only[catS,fldS,app_nil]
theorem rows_stepT{fs:List Fld}{i:Nat}(h:i<fs.length):((fs.take i).map fldS).map strRow++[[.v (.string (fldS (fs.getD i default)))]]=((fs.take (i+1)).map fldS).map strRow:=by
 rw[take_snoc h];simp[strRow]
theorem tableP_ok(t:Tab):Pure Tryz.prog 27 [.agg t.cells] (.tup [sv (if tabErr t=0 then tabS t else⟨#[]⟩),iv (tabErr t)]):=by
 refine Pure.runk (fun _=>0) Tryz.func27 comp27 era27 (Nat.le_of_ble_eq_true rfl) fun σ=> ?_
 repeat'(first|exact .nil|refine .k0 ?_|refine .k1 ?_|refine .k2 ?_|refine .k6 ?_|refine .k7 ?_|refine .k9 ?_|(refine .cd ?_ ?_<;>(intro hc;skip))|refine .r1 ?_ ?_|(refine .m1 ?_ ?_;intro b)|(refine .m2 ?_ ?_;intro hlen)|refine .an rfl (by intro hob;first|exact tableX_ok t|fail) ?_ ?_|fail)
 all_goals(try simp only[BL]at *)
 ·refine Sx.Fin.intro Zs (bse ?_ rfl)
  exact(if_neg hc).symm
 have hT:=TOK.of hc
 have hTn:=hT.n
 have hTe:=hT.e
 have hTk:=hT.k
 have hTl:=hT.l
 have hTz:=tab_size hT
 have hj:(joinS [] (⟨#[44]⟩:Str)).size=0:=rfl
 have hTq:=itoa_size t.keep (by omega)
 rw[if_pos hc,hc]
 refine WK_loop (fun n rg σ'=>∃ i:Nat,i≤t.fields.length∧n=t.fields.length-i∧((i=0∧σ'=(1,b,Blk.cells t.cells)::σ∧rg=[(1,.lp 1 b 0),(5,.v (.slice none 0 0)),(14,.sl false 4 (t.fields.map Fld.cells)),(15,iv t.fields.length),(16,iv i)])∨(0<i∧∃ b' v c,σ'=(29,b',.tail v c)::(1,b,Blk.cells t.cells)::σ∧rg=[(1,.lp 1 b 0),(5,.own 1 29 b' v c (((t.fields.take i).map fldS).map strRow)),(14,.sl false 4 (t.fields.map Fld.cells)),(15,iv t.fields.length),(16,iv i)]))) t.fields.length rfl ⟨_,_,Zr,Zs,0,Nat.zero_le _,rfl,.inl ⟨rfl,rfl,rfl⟩⟩ ?_
 rintro n _ _ ⟨i,hi,hn,⟨h0,rfl,rfl⟩|⟨h0,b0,v0,c0,rfl,rfl⟩⟩
 all_goals have hf:=fun h=>tab_fac (i:=i) hT h
 all_goals have hz1:=fun h=>(hf h).2.2.2.1
 all_goals have hz2:=fun h=>(hf h).2.2.2.2
 repeat'(first|exact .nil|refine .k0 ?_|refine .k1 ?_|refine .k2 ?_|refine .k4 ?_|refine .k5 ?_|refine .k6 ?_|refine .k7 ?_|refine .k8 ?_|refine .k9 ?_|(refine .cd ?_ ?_<;>(intro hc;skip))|refine .r1 ?_ ?_|(refine .l1 ?_;intro b)|refine .t1 ?_ ?_ ?_|refine .u1 ?_ ?_ ?_ (fun b u c=> ?_)|refine .u2 ?_ ?_ ?_ (fun b u c=> ?_)|refine .an rfl (by intro hob;first|exact itoa_ok _ (by first|omega|fail)|exact kind_ok (t.fields.getD i default).type (hf (by(simp only[BL]at *;omega))).1 (hf (by(simp only[BL]at *;omega))).2.1 (hf (by(simp only[BL]at *;omega))).2.2.1|exact join_ok' _ rfl (Nat.le_of_ble_eq_true rfl) (by simp only[lenS,szl,List.size_toArray,List.length_cons,List.length_nil,catS_size];first|omega|(simp only[BL]at *;omega))|(refine(joinL_ok [] ⟨#[44]⟩ false (by decide) (by decide)).wk ?_;(repeat' first|exact .refl _|exact .nil|refine .cons ?_ ?_|fail);done)|(refine(joinL_ok (t.fields.map fldS) ⟨#[44]⟩ false (by rw[List.length_map];omega) (Nat.le_trans (tab_len hT) (by decide))).wk (WkL.cons (Wk.ownr (by rw[List.take_of_length_le (by(simp only[BL]at *;omega))])) (WkL.cons (Wk.refl _) WkL.nil)))) ?_ ?_|(show List.all _ _=true;rfl)|fail)
 try any_goals(exact Zo)
 all_goals(try simp only[BL]at *)
 any_goals((simp only[List.length_cons,List.length_nil,List.length_append,List.length_map,List.length_take,app_size,szl,str_len,List.size_toArray];omega))
 all_goals have e:=fun h=>rows_stepT (fs:=t.fields) (i:=i) h
 all_goals try simp only[fldS_cat]
 ·subst h0
  refine⟨t.fields.length-(0+1),by omega,_,_,Zr,Zs,0+1,by omega,rfl,.inr ⟨by omega,_,_,_,rfl,?_⟩⟩
  rw[← e (by omega),up1 (n:=t.fields.length) (by omega) (by assumption)];rfl
 ·have h00:t.fields=[]:=List.eq_nil_of_length_eq_zero (by omega)
  refine Sx.Fin.intro Zs (bse ?_ rfl)
  unfold tabS
  rw[if_neg hc,h00]
  simp only[catS,app_nil,app_nil',app_assoc,itoa_int hTk.1,List.map_nil]
 ·have h00:t.fields=[]:=List.eq_nil_of_length_eq_zero (by omega)
  refine Sx.Fin.intro Zs (bse ?_ rfl)
  unfold tabS
  rw[if_pos hc,h00]
  simp only[catS,app_nil,app_nil',app_assoc,List.map_nil]
 ·refine⟨t.fields.length-(i+1),by omega,_,_,Zr,Zs,i+1,by omega,rfl,.inr ⟨by omega,_,_,_,rfl,?_⟩⟩
  rw[← e (by omega),up1 (n:=t.fields.length) (by omega) (by assumption)]
 ·refine Sx.Fin.intro Zs (bse ?_ rfl)
  unfold tabS
  rw[if_neg hc]
  simp only[catS,app_nil,app_nil',app_assoc,itoa_int hTk.1]
 ·refine Sx.Fin.intro Zs (bse ?_ rfl)
  unfold tabS
  rw[if_pos hc]
  simp only[catS,app_nil,app_nil',app_assoc]
end Go.Proofs.YtbihckigennlhaaGreatDoor
namespace Go.Sx
theorem WkL.get{xs ys:List AV}(h:WkL xs ys):xs.length=ys.length∧∀ j (h1:j<xs.length) (h2:j<ys.length),Wk xs[j] ys[j]:=by
 induction h with
 |nil=>exact⟨rfl,fun j h1=>absurd h1 (by simp)⟩
 |cons h t ih=>
  refine⟨by simp[ih.1],fun j h1 h2=> ?_⟩
  cases j with
  |zero=>exact h
  |succ j=>exact ih.2 j (by simpa using h1) (by simpa using h2)
inductive WkLL:List (List AV)→List (List AV)→Prop
 |nil:WkLL [] []
 |cons {x y:List AV} {xs ys:List (List AV)} (h:WkL x y) (t:WkLL xs ys):WkLL (x::xs) (y::ys)
theorem WkLL.get{xs ys:List (List AV)}(h:WkLL xs ys):xs.length=ys.length∧∀ j (h1:j<xs.length) (h2:j<ys.length),WkL xs[j] ys[j]:=by
 induction h with
 |nil=>exact⟨rfl,fun j h1=>absurd h1 (by simp)⟩
 |cons h t ih=>
  refine⟨by simp[ih.1],fun j h1 h2=> ?_⟩
  cases j with
  |zero=>exact h
  |succ j=>exact ih.2 j (by simpa using h1) (by simpa using h2)
theorem Wk.rows{nn:Bool}{n:Nat}{rows rows':List (List AV)}(h:WkLL rows rows'):Wk (.sl nn n rows) (.sl false n rows'):=fun M v hv=>by
 obtain⟨hl,hg⟩:=h.get
 cases hv with
 |nil _ _ a ha=>
  obtain rfl:rows'=[]:=List.eq_nil_of_length_eq_zero hl.symm
  exact .nil _ _ a (fun h=>nomatch h)
 |sl _ _ _ b off cap cs hsz hM hR hc hm=>
  rw[hl]
  refine .sl _ _ _ b off cap cs (fun i hi=> ?_) (fun k hk=>hM k (by rw[hl];exact hk)) (fun i hi j hj=> ?_) (by omega) hm
  ·have:=(hg i (by omega) hi).get.1
   rw[← this];exact hsz i (by omega)
  ·have hgi:=(hg i (by omega) hi).get
   have:=hR i (by omega) j (by rw[hgi.1];exact hj)
   exact hgi.2 j (by rw[hgi.1];exact hj) hj M _ this
end Go.Sx
namespace Go.Proofs.YtbihckigennlhaaGreatDoor
open Go.Sx Go.Proofs
abbrev aS:Str:=⟨#[97]⟩
abbrev bS:Str:=⟨#[98]⟩
abbrev cS:Str:=⟨#[99]⟩
def eurF:List Fac:=[⟨⟨#[101,117,114]⟩,1⟩]
def coinE:Ex:=⟨1,⟨#[]⟩,⟨#[]⟩,⟨#[]⟩,⟨2,2,⟨#[]⟩⟩,eurF,0,⟨0,0⟩,[]⟩
def zeroE:Ex:=⟨1,⟨#[]⟩,⟨#[]⟩,⟨#[]⟩,⟨2,0,⟨#[]⟩⟩,[],0,⟨0,0⟩,[]⟩
def keyE:Ex:=⟨1,⟨#[]⟩,⟨#[115,104,111,112]⟩,⟨#[]⟩,⟨5,0,⟨#[115,49]⟩⟩,[],0,⟨0,0⟩,[]⟩
def choE:Ex:=⟨8,⟨#[]⟩,⟨#[]⟩,⟨#[]⟩,⟨0,0,⟨#[]⟩⟩,[],0,⟨0,0⟩,[nameE aS,nameE bS,nameE cS]⟩
def defXE:Ex:=⟨9,⟨#[]⟩,⟨#[]⟩,⟨#[]⟩,⟨0,0,⟨#[]⟩⟩,[],0,⟨0,0⟩,[choE,zeroE]⟩
def lookE:Ex:=⟨4,⟨#[]⟩,⟨#[114,97,110,107]⟩,⟨#[]⟩,⟨0,0,⟨#[]⟩⟩,[],0,⟨0,0⟩,[keyE]⟩
def cntE:Ex:=⟨5,⟨#[99,111,117,110,116]⟩,⟨#[]⟩,⟨#[99,108,105,99,107,115]⟩,⟨0,0,⟨#[]⟩⟩,[],0,⟨1,0⟩,[tru,tru]⟩
def quaE:Ex:=⟨5,⟨#[113,117,97,110,116,105,108,101]⟩,⟨#[]⟩,⟨#[99,97,108,108,115]⟩,⟨0,0,⟨#[]⟩⟩,[],950,⟨2,60⟩,[fieldE ⟨#[109,115]⟩,fieldE ⟨#[111,107]⟩]⟩
theorem prints_true{x:Ex}{s:Str}(hs:x.size≤100)(h:exprS x=s∧shape x=0):Pure Tryz.prog 31 [.agg x.row,sv s] (.v (.bool true)):=by
 have:=prints_ok x hs s
 rwa [decide_eq_true h]at this
theorem pr_defXE:Pure Tryz.prog 31 [.agg defXE.row,sv ⟨#[40,105,102,32,97,32,116,104,101,110,32,98,32,101,108,115,101,32,99,41,32,100,101,102,97,117,108,116,32,48]⟩] (.v (.bool true)):=prints_true (by decide+kernel) (by decide+kernel)
theorem pr_lookE:Pure Tryz.prog 31 [.agg lookE.row,sv ⟨#[114,97,110,107,32,111,102,32,40,64,115,104,111,112,32,34,115,49,34,41]⟩] (.v (.bool true)):=prints_true (by decide+kernel) (by decide+kernel)
theorem pr_cntE:Pure Tryz.prog 31 [.agg cntE.row,sv ⟨#[99,111,117,110,116,40,99,108,105,99,107,115,44,32,97,108,108,41]⟩] (.v (.bool true)):=prints_true (by decide+kernel) (by decide+kernel)
theorem pr_quaE:Pure Tryz.prog 31 [.agg quaE.row,sv ⟨#[113,117,97,110,116,105,108,101,40,99,97,108,108,115,44,32,109,115,44,32,57,53,48,44,32,115,108,105,100,105,110,103,32,54,48,32,119,104,101,114,101,32,111,107,41]⟩] (.v (.bool true)):=prints_true (by decide+kernel) (by decide+kernel)
def tab1:Tab:=⟨⟨#[116]⟩,⟨#[117,115,101,114]⟩,[⟨⟨#[120]⟩,⟨3,eurF,⟨#[]⟩⟩⟩,⟨⟨#[121]⟩,⟨1,[],⟨#[]⟩⟩⟩],9⟩
def tab2:Tab:=⟨⟨#[116]⟩,⟨#[117,115,101,114]⟩,[],0⟩
theorem pr_tab1:Pure Tryz.prog 27 [.agg tab1.cells] (.tup [sv ⟨#[116,97,98,108,101,32,116,32,111,102,32,117,115,101,114,32,123,32,120,58,32,100,101,99,32,91,101,117,114,93,44,32,121,58,32,98,111,111,108,32,125,32,107,101,101,112,32,57,59]⟩,iv 0]):=by
 have:=tableP_ok tab1
 rwa [show tabErr tab1=0 by decide+kernel,if_pos rfl,show tabS tab1=⟨#[116,97,98,108,101,32,116,32,111,102,32,117,115,101,114,32,123,32,120,58,32,100,101,99,32,91,101,117,114,93,44,32,121,58,32,98,111,111,108,32,125,32,107,101,101,112,32,57,59]⟩ by decide+kernel]at this
theorem pr_tab2:Pure Tryz.prog 27 [.agg tab2.cells] (.tup [sv ⟨#[116,97,98,108,101,32,116,32,111,102,32,117,115,101,114,32,123,32,125,59]⟩,iv 0]):=by
 have:=tableP_ok tab2
 rwa [show tabErr tab2=0 by decide+kernel,if_pos rfl,show tabS tab2=⟨#[116,97,98,108,101,32,116,32,111,102,32,117,115,101,114,32,123,32,125,59]⟩ by decide+kernel]at this
theorem pr_x:Pure Tryz.prog 10 [.agg (fieldE ⟨#[120]⟩).row] (.tup [sv ⟨#[]⟩,iv 3]):=by
 have:=exprX_ok (fieldE ⟨#[120]⟩) (by decide+kernel)
 rwa [show exprS (fieldE ⟨#[120]⟩)=⟨#[]⟩ by decide+kernel,show shape (fieldE ⟨#[120]⟩)=3 by decide+kernel]at this
theorem example_ok:Pure Tryz.prog 8 [] (.v (.bool true)):=by
 refine Pure.runk (fun _=>0) Tryz.func8 comp8 era8 (Nat.le_of_ble_eq_true rfl) fun σ=> ?_
 repeat'(first|exact .nil|refine .k0 ?_|refine .k1 ?_|refine .k2 ?_|refine .k5 ?_|refine .k7 ?_|refine .k9 ?_|(refine .cd ?_ ?_<;>(intro hc;first|exact kt hc (by assumption)|skip))|refine .r1 ?_ ?_|(refine .l1 ?_;intro b)|refine .an rfl (by intro hob;first|exact nameE_ok _|exact fieldE_ok _|exact true_ok|exact twoE_ok _ _ _|exact oneE_ok _ _|(refine(twoE_ok ⟨#[42]⟩ (nameE bS) coinE).wk ?_;(repeat' first|exact .refl _|exact .nil|refine .cons ?_ ?_|refine .agg ?_|exact .sl|fail);done)|(refine(pr_defXE).wk ?_;((repeat' first|exact .refl _|exact .nil|refine .agg ?_|refine .cons ?_ ?_|refine .rows ?_);done))|(refine(pr_lookE).wk ?_;((repeat' first|exact .refl _|exact .nil|refine .agg ?_|refine .cons ?_ ?_|refine .rows ?_);done))|(refine(pr_cntE).wk ?_;((repeat' first|exact .refl _|exact .nil|refine .agg ?_|refine .cons ?_ ?_|refine .rows ?_);done))|(refine(pr_quaE).wk ?_;((repeat' first|exact .refl _|exact .nil|refine .agg ?_|refine .cons ?_ ?_|refine .rows ?_);done))|(refine(pr_tab1).wk ?_;((repeat' first|exact .refl _|exact .nil|refine .agg ?_|refine .cons ?_ ?_|refine .rows ?_);done))|(refine(pr_tab2).wk ?_;((repeat' first|exact .refl _|exact .nil|refine .agg ?_|refine .cons ?_ ?_|fail);done))|(refine(pr_x).wk ?_;((repeat' first|exact .refl _|fail);done))|exact prints_true (by decide+kernel) (by decide+kernel)) ?_ ?_|fail)
 all_goals try(exact absurd hc (by decide))
 any_goals exact Nat.le_of_ble_eq_true rfl
 ·intro _;exact Nat.le_of_ble_eq_true rfl
 ·exact Sx.Fin.intro Zs (congrArg (fun b=>AV.v (.bool b)) (by decide+kernel))
theorem few_100{x:Ex}(h:¬few x 100<0):x.size≤100:=by
 have:=(few_size x 100 (by decide)).2.2 (by omega)
 omega
theorem Name.size{s:Str}(h:Name s):s.size≤24:=h.1.2.1
theorem Fea.cells_row(f:Fea):f.cells=[sv f.name,sv f.entity,iv f.type.kind,.sl false 2 (f.type.unit.map Fac.cells),sv f.type.of,iv f.body.kind,sv f.body.op,sv f.body.name,sv f.body.table,iv f.body.val.kind,iv f.body.val.n,sv f.body.val.s,.sl false 2 (f.body.unit.map Fac.cells),iv f.body.param,iv f.body.win.kind,iv f.body.win.size,.sl false 12 (f.body.args.map Ex.row),iv f.version]:=by rw[← Ex.cells_row];rfl
theorem expr_lay(x:Ex)(hs:x.size≤100):Pure Tryz.prog 10 [.agg x.lay] (.tup [sv (exprS x),iv (shape x)]):=by have:=exprX_ok x hs;rwa [Ex.row_eq x]at this
theorem typeS_size(t:Ty):(typeS t).size≤220:=by
 unfold typeS;split
 ·rename_i h;exact tyS_size h
 ·decide
def FewTab(t:Tab):Prop:=(∀ f∈t.fields,f.name.size≤100∧FewTy f.type)∧t.fields.length≤12∧t.name.size+t.entity.size≤200
instance (t:Tab):Decidable (FewTab t):=inferInstanceAs (Decidable (_∧_∧_))
def FewFea(f:Fea):Prop:=f.name.size+f.entity.size≤200∧FewTy f.type∧0≤few f.body 80
instance (f:Fea):Decidable (FewFea f):=inferInstanceAs (Decidable (_∧_∧_))
theorem few_lay(x:Ex)(hw:x.wt≤2 ^ 60)(n:Int)(hn: -1≤n∧n≤1000):Pure Tryz.prog 13 [.agg x.lay,iv n] (iv (few x n)):=by have:=few_ok x hw n hn;rwa [Ex.row_eq x]at this
set_option linter.unusedSectionVars false
set_option maxHeartbeats 8000000
theorem exprA(s:List UInt8)(nn:Bool):Sx.Pure Tryz.prog 9 [.sl nn 1 (s.map byteRow)] (exprV s):=exprS_ok greatOk anyOk normOk decOk s nn fun h=>toks_gd h
theorem typeA(s:List UInt8)(nn:Bool):Sx.Pure Tryz.prog 22 [.sl nn 1 (s.map byteRow)] (typeV s):=typeS_ok greatOk anyOk normOk s nn fun h=>toks_gd h
theorem codeW{α:Type}(f:List Tok→PR α)(z:α)(s:Bs):(wholeB f s).1.2=(wholeP f z s).2.2:=by
 unfold wholeB wholeP
 split
 ·rfl
 ·split
  ·rename_i h;rw[h]
  ·rename_i h;rw[h];simp only
   cases f (toksL s).1 with
   |err p c=>rfl
   |ok a L=>
    rw[PR.bind_ok]
    simp only
    by_cases hk:(hd L).kind≠6
    ·rw[if_pos hk,if_pos hk];rfl
    ·rw[if_neg hk,if_neg hk]
theorem valW{α:Type}(f:List Tok→PR α)(z:α)(s:Bs):(if(wholeP f z s).2.2=0 then(wholeB f s).2.getD z else z)=(wholeP f z s).1:=by
 rw[← codeW]
 unfold wholeB wholeP
 split
 ·rfl
 ·split
  ·rename_i h;rw[h];simp
  ·rename_i h;rw[h];simp only
   cases f (toksL s).1 with
   |err p c=>simp[PR.bind]
   |ok a L=>
    rw[PR.bind_ok]
    simp only
    by_cases hk:(hd L).kind≠6
    ·rw[if_pos hk,if_pos hk];rfl
    ·rw[if_neg hk,if_neg hk];rfl
theorem someW{α:Type}{f:List Tok→PR α}{a y:α}{s:Bs}(h:∀ z,wholeP f z s=(a,0,0))(hy:y≠a):(wholeB f s).1.2=0∧(wholeB f s).2=some a:=by
 have h0:=codeW f a s
 rw[h a]at h0
 refine⟨h0,?_⟩
 have hv:∀ z,(wholeB f s).2.getD z=a:=fun z=>by
  have:=valW f z s
  rwa [h z,if_pos rfl]at this
 cases hB:(wholeB f s).2 with
 |none=>exact absurd (by have:=hv y;rwa [hB]at this) hy
 |some b=>have:=hv a;rw[hB]at this;rw[← this];rfl
theorem shape_size{x:Ex}(h:shape x=0):x.size≤64:=by
 unfold shape at h
 split at h
 ·cases h
 ·omega
theorem exprS_text{x:Ex}(h:shape x=0):exprS x=text x:=if_pos h
theorem backE{x:Ex}(h:shape x=0)(nn:Bool):Sx.Pure Tryz.prog 9 [.sl nn 1 ((exprS x).data.toList.map byteRow)] (.tup [.agg x.lay,iv 0,iv 0]):=by
 have hA:=exprA (bL (text x)) nn
 have hy:tru≠x∨unE wNot tru≠x:=by
  by_cases e:tru=x
  ·right;subst e;intro e;cases e
  ·exact .inl e
 obtain⟨h1,h2⟩:(wholeB (exprP N0 false) (bL (text x))).1.2=0∧(wholeB (exprP N0 false) (bL (text x))).2=some x:=by
  rcases hy with hy|hy
  ·exact someW (whole_text (shape_form h) (shape_size h)) hy
  ·exact someW (whole_text (shape_form h) (shape_size h)) hy
 unfold exprV at hA
 rw[if_pos h1,h2]at hA
 rw[exprS_text h]
 have e:x.lay=exCells x:=(Ex.row_eq x).symm
 rw[e]
 exact hA
theorem typeS_text{t:Ty}(h:tyErr t=0):typeS t=tyS t:=if_pos h
theorem backT{t:Ty}(h:tyErr t=0)(nn:Bool):Sx.Pure Tryz.prog 22 [.sl nn 1 ((typeS t).data.toList.map byteRow)] (.tup [.agg t.cells,iv 0,iv 0]):=by
 have hA:=typeA (bL (tyS t)) nn
 obtain⟨h1,h2⟩:=someW (y:=⟨t.kind+1,t.unit,t.of⟩) (whole_ty h) (fun e=>by have:=congrArg Ty.kind e;simp only at this;omega)
 unfold typeV at hA
 rw[if_pos h1,h2]at hA
 rw[typeS_text h]
 exact hA
theorem shapeR_lay(x:Ex)(hs:x.size≤100):Sx.Pure Tryz.prog 14 [.agg x.lay] (iv (shape x)):=by have:=shapeR_ok x (by omega);rwa [Ex.row_eq x]at this
theorem same_lay(x y:Ex):Sx.Pure Tryz.prog 12 [.agg x.lay,.agg y.lay] (.v (.bool (decide (x=y)))):=by have:=sameExpr_ok x y;rwa [Ex.row_eq x,Ex.row_eq y]at this
theorem sameTy_t(t:Ty):Sx.Pure Tryz.prog 23 [.agg t.cells,.agg t.cells] (.v (.bool true)):=by
 refine Pure.runk (fun _=>0) Tryz.func23 comp23 era23 (Nat.le_of_ble_eq_true rfl) fun σ=> ?_
 repeat'(first|exact .nil|refine .k0 ?_|refine .k1 ?_|refine .k2 ?_|refine .k4 ?_|refine .k7 ?_|refine .r1 ?_ ?_|(refine .m1 ?_ ?_;intro b)|refine .an rfl (by intro hob;exact same_ok t.unit t.unit) ?_ ?_|fail)
 all_goals(try simp only[BL]at *)
 all_goals(show Sx.Fin _ _ _ _;exact Zw)
theorem printerBack_ok(x:Ex)(t:Ty)(hw:x.wt≤2 ^ 60)(ht:t.of.size≤2 ^ 59):Sx.Pure Tryz.prog 6 [.agg x.row,.agg t.cells] (.v (.bool true)):=by
 rw[Ex.row_eq x]
 have hS:shape x=0→(exprS x).size≤9223372036854775806:=fun h=>by
  rw[exprS_text h]
  have:=text_small x false (shape_form h)
  have:=shape_size h
  omega
 have hT:=typeS_size t
 by_cases h0:shape x=0
 all_goals
  refine Pure.runk (fun _=>0) Tryz.func6 comp6 era6 (Nat.le_of_ble_eq_true rfl) fun σ=> ?_
  repeat'(first|exact .nil|refine .k0 ?_|refine .k1 ?_|refine .k2 ?_|refine .k4 ?_|refine .k7 ?_|refine .k9 ?_|(refine .cd ?_ ?_<;>(intro hc;skip))|refine .r1 ?_ ?_|(refine .l1 ?_;intro b)|(refine .m1 ?_ ?_;intro b)|refine .an rfl (by intro hob;first|exact example_ok|exact few_lay x hw 100 (by decide)|exact fewType_ok t ht|exact shapeR_lay x (few_100 (by grind))|exact expr_lay x (few_100 (by grind))|exact backE (by grind) true|exact same_lay x x|exact typeR_ok t|exact typeP_ok t|exact backT (by grind) true|exact sameTy_t t) ?_ ?_|refine .t7 ?_ ?_ ?_|fail)
  try any_goals exact Zo
  all_goals(try simp only[BL]at *)
  all_goals first
   |exact hS hc
   |omega
   |(exfalso;simp[h0]at hc;done)
   |(refine Sx.Fin.intro Zs (congrArg (fun b=>AV.v (.bool b)) ?_);first|rfl|(simp_all;done))
theorem own:ownKnob Tryz.prog.godebug=none:=by kernel_rfl
theorem laidOut:laidOutB Tryz.prog=true:=by kernel_rfl
section
variable {H:Type}{enc:TypeId×Value→H}{W:World}
theorem rd_int(n:Nat):Rd enc Tryz.prog W n 3 fun l=>∃ z:Int,l=[iv z]:=(Rd.int Tryz.underlying3).mono fun l ⟨z,h,_⟩=>⟨z,h⟩
theorem rd_str(n:Nat):Rd enc Tryz.prog W n 9 fun l=>∃ s:Str,l=[sv s]∧s.size≤reachBytes:=Rd.str Tryz.underlying9
theorem rd_val:∀ n:Nat,Rd enc Tryz.prog W n 25 fun l=>∃ v:Val,l=v.cells∧v.s.size≤reachBytes
 |0=>Rd.zero _ _
 |n+1=>(Rd.struct Tryz.underlying25 (by kernel_rfl) (.cons (rd_int n) (.cons (rd_int n) (.cons (rd_str n) .nil)))).mono (by
  rintro _ ⟨_,_,rfl,⟨a,rfl⟩,_,_,rfl,⟨b,rfl⟩,_,_,rfl,⟨c,rfl,hc⟩,rfl⟩
  exact⟨⟨a,b,c⟩,rfl,hc⟩)
theorem rd_win:∀ n:Nat,Rd enc Tryz.prog W n 28 fun l=>∃ w:Win,l=w.cells
 |0=>Rd.zero _ _
 |n+1=>(Rd.struct Tryz.underlying28 (by kernel_rfl) (.cons (rd_int n) (.cons (rd_int n) .nil))).mono (by
  rintro _ ⟨_,_,rfl,⟨a,rfl⟩,_,_,rfl,⟨b,rfl⟩,rfl⟩
  exact⟨⟨a,b⟩,rfl⟩)
theorem rd_fac:∀ n:Nat,Rd enc Tryz.prog W n 77 fun l=>∃ f:Fac,l=f.cells
 |0=>Rd.zero _ _
 |n+1=>(Rd.struct Tryz.underlying77 (by kernel_rfl) (.cons (rd_str n) (.cons (rd_int n) .nil))).mono (by
  rintro _ ⟨_,_,rfl,⟨a,rfl,_⟩,_,_,rfl,⟨b,rfl⟩,rfl⟩
  exact⟨⟨a,b⟩,rfl⟩)
theorem rdU_unit:∀ n:Nat,Rd enc Tryz.prog W n 26 fun l=>∃ u:List Fac,l=[.sl false 2 (u.map Fac.cells)]
 |0=>Rd.zero _ _
 |n+1=>(Rd.slice Tryz.underlying26 (esz:=2) (by kernel_rfl) (by decide) (rd_fac n)).mono (by
  rintro _ ⟨rows,rfl,_,h⟩
  obtain⟨ls,rfl,_⟩:=rows_map (f:=Fac.cells) (W:=fun _=>True) (fun r hr=>by obtain⟨x,h⟩:=h r hr;exact⟨x,h,trivial⟩)
  exact⟨ls,rfl⟩)
theorem rd_type:∀ n:Nat,Rd enc Tryz.prog W n 51 fun l=>∃ t:Ty,l=t.cells∧t.of.size≤reachBytes
 |0=>Rd.zero _ _
 |n+1=>(Rd.struct Tryz.underlying51 (by kernel_rfl) (.cons (rd_int n) (.cons (rdU_unit n) (.cons (rd_str n) .nil)))).mono (by
  rintro _ ⟨_,_,rfl,⟨a,rfl⟩,_,_,rfl,⟨b,rfl⟩,_,_,rfl,⟨c,rfl,hc⟩,rfl⟩
  exact⟨⟨a,b,c⟩,rfl,hc⟩)
theorem wtL_le{l:List Ex}{k:Nat}(h:∀ y∈l,y.wt≤k):Ex.wtL l≤k:=by
 induction l with
 |nil=>exact Nat.zero_le _
 |cons x l ih=>
  have h1:=h x (by simp)
  have h2:=ih fun y hy=>h y (by simp[hy])
  rw[Ex.wtL];omega
mutual
theorem rd_ex:∀ n:Nat,Rd enc Tryz.prog W n 31 fun l=>∃ x:Ex,l=x.row∧x.wt≤2 ^ 60
 |0=>Rd.zero _ _
 |n+1=>(Rd.struct Tryz.underlying31 (by kernel_rfl) (.cons (rd_int n) (.cons (rd_str n) (.cons (rd_str n) (.cons (rd_str n) (.cons (rd_val n) (.cons (rdU_unit n) (.cons (rd_int n) (.cons (rd_win n) (.cons (rd_exs n) .nil)))))))))).mono (by
  rintro _ ⟨_,_,rfl,⟨k,rfl⟩,_,_,rfl,⟨o,rfl,ho⟩,_,_,rfl,⟨nm,rfl,hn⟩,_,_,rfl,⟨t,rfl,ht⟩,_,_,rfl,⟨v,rfl,hv⟩,_,_,rfl,⟨u,rfl⟩,_,_,rfl,⟨p,rfl⟩,_,_,rfl,⟨w,rfl⟩,_,_,rfl,⟨ks,rfl,hks⟩,rfl⟩
  refine⟨⟨k,o,nm,t,v,u,p,w,ks⟩,(Ex.row_eq _).symm ▸ rfl,?_⟩
  rw[Ex.wt]
  have:=wtL_le hks
  have hr:reachBytes≤2 ^ 47:=by decide
  omega)
theorem rd_exs:∀ n:Nat,Rd enc Tryz.prog W n 29 fun l=>∃ ks:List Ex,l=[.sl false 12 (ks.map Ex.row)]∧∀ y∈ks,y.wt≤2 ^ 60
 |0=>Rd.zero _ _
 |n+1=>(Rd.slice Tryz.underlying29 (esz:=12) (by kernel_rfl) (by decide) (rd_ex n)).mono (by
  rintro _ ⟨rows,rfl,_,h⟩
  obtain⟨ls,rfl,hl⟩:=rows_map (f:=Ex.row) (W:=fun y=>y.wt≤2 ^ 60) (fun r hr=>h r hr)
  exact⟨ls,rfl,hl⟩)
end
end
end Go.Proofs.YtbihckigennlhaaGreatDoor
namespace Go.Proofs.YtbihckigennlhaaGreatDoor
open Go.Sx Go.Proofs Go.Lib
theorem pc_of{W:World}{g:Nat}{x:AV}{v:Value}(hc:W.cell? ⟨g,0,none⟩=some v)(h:R (M0 W) x v):R (M0 W) (.pc [x]) (.pointer (some ⟨g,0,none⟩)):=by
 refine .pc [x] g 0 (fun _=>v) (fun k hk=> ?_) (fun k hk=> ?_)
 ·obtain rfl:k=0:=by simpa using hk
  exact hc
 ·obtain rfl:k=0:=by simpa using hk
  exact h
def litD(s:Str):DataW Unit:= .lit (.string s.data.toList)
theorem strs_exact{enc:TypeId×Value→Unit}{P:Program}[Glob P]{W:World}{t e:TypeId}{fuel:Nat}{held:Bool}{cs:List Value}{p:List MemPlace}{ss:List Str}(ht:P.underlying t=some (.slice e))(he:P.underlying e=some .string)(hce:P.cellsOf e=1)
  (h0:ss≠[]) (hx:DataW.trod enc P W 0 (fun _=>true) held fuel t cs=some (.slice (ss.map litD) [],p)):∃ v,cs=[v]∧R (M0 W) (.sl false 1 (ss.map strRow)) v:=by
 rcases DataW.trod_slice ht hx with⟨_,h⟩|⟨a,len,cap,elems,rest,m,rfl,rfl,hx2,_,hlc,hcm,hlen,hel,hsp,_⟩
 ·cases h
 ·simp only[Prod.mk.injEq,DataW.slice.injEq]at hx2
  have hes:=hx2.1.1
  have hl:elems.length=ss.length:=by
   have:=congrArg List.length hes
   simpa using this.symm
  have hpos:0<ss.length:=List.length_pos_iff.2 h0
  have cell:∀ i (hi:i<ss.length),W.cell? (a.add i)=some (.string (ss.getD i ⟨#[]⟩)):=by
   intro i hi
   have h1:=hel i (by omega)
   have hie:i<elems.length:=by omega
   rw[List.getElem?_eq_getElem hie,Option.bind_eq_some_iff]at h1
   obtain⟨cs',hc,ht'⟩:=h1
   obtain⟨s,rfl,hs,_⟩:=trod_str he ht'
   obtain⟨g1,g2⟩:=cells_get hc
   have g3:=g2 0 (by omega)
   have e1:(elems.map (·.1))[i]'(by simpa using hie)=litD (ss[i]'hi):=by
    have:(ss.map litD)[i]'(by simpa using hi)=litD (ss[i]'hi):=by rw[List.getElem_map]
    rw[← this]
    exact List.getElem_of_eq hes.symm _
   rw[List.getElem_map,hs]at e1
   simp only[litD,DataW.lit.injEq,Lit.string.injEq]at e1
   have e2:s=ss[i]'hi:=str_ext e1
   rw[hce,Nat.mul_one]at g3
   have e3:(a.add i).add 0=a.add i:=by rw[Go.Deep.add_add];rfl
   rw[e3]at g3
   rw[g3,e2,List.getD_eq_getElem?_getD,List.getElem?_eq_getElem hi];rfl
  have hs0:a.spot=none:=by
   have:=spot_of_cell (cell 0 hpos)
   simpa[Addr.add]using this
  obtain⟨b,o,s⟩:=a
  simp only at hs0
  subst hs0
  refine⟨_,rfl,?_⟩
  have hll:(ss.map strRow).length=len:=by rw[List.length_map];omega
  have:=R.mk_sl (M:=M0 W) (b:=b) (off:=o) (cap:=cap) (esz:=1) (rows:=ss.map strRow) (cs:=fun k=> .string (ss.getD k ⟨#[]⟩)) ⟨fun i hi=> ?_,fun k hk=> ?_,fun i hi j hj=> ?_⟩ (by omega) hcm false
  ·rw[hll]at this;exact this
  ·rw[List.getElem_map];rfl
  ·have:=cell k (by simpa using hk)
   rw[Addr.add_lit]at this
   exact this
  ·have hi':i<ss.length:=by simpa using hi
   simp only[List.getElem_map,strRow,List.length_cons,List.length_nil]at hj ⊢
   obtain rfl:j=0:=by omega
   rw[List.getD_eq_getElem?_getD,Nat.mul_one,Nat.add_zero,List.getElem?_eq_getElem hi']
   exact .v _
theorem glob_strs{W:World}{name:String}{G:Nat}{d:DataW Unit}{ss:List Str}(h:VarReads Tryz.prog W name d)(hg:Tryz.prog.globalNamed name=some G)(hty:(Tryz.prog.globals[G]?).map (·.type)=some 128)(hd:d= .slice (ss.map litD) [])(h0:ss≠[]):
  R (M0 W) (.pc [.sl false 1 (ss.map strRow)]) (.pointer (some ⟨G,0,none⟩)):=by
 obtain⟨g,t,cs,fuel,p,h1,h2,h3,h4⟩:=h
 obtain rfl:=Option.some.inj (hg.symm.trans h1)
 obtain rfl:=Option.some.inj (hty.symm.trans h2)
 rw[hd]at h4
 obtain⟨v,hv,hR⟩:=strs_exact Tryz.underlying128 Tryz.underlying9 (by kernel_rfl) h0 h4
 refine pc_of ?_ hR
 rw[World.var?_cell hg h3 0]
 have:=congrArg (·[0]?) hv
 simpa using this
theorem pcs_of{W:World}{g:Nat}{vs:List Value}(hc:∀ k (h:k<vs.length),W.cell? ⟨g,k,none⟩=some vs[k]):R (M0 W) (.pc (vs.map AV.v)) (.pointer (some ⟨g,0,none⟩)):=by
 refine .pc _ g 0 (fun k=>vs.getD k undef) (fun k hk=> ?_) (fun k hk=> ?_)
 ·have hk':k<vs.length:=by simpa using hk
  rw[Nat.zero_add,List.getD_eq_getElem?_getD,List.getElem?_eq_getElem hk']
  exact hc k hk'
 ·have hk':k<vs.length:=by simpa using hk
  rw[List.getElem_map,List.getD_eq_getElem?_getD,List.getElem?_eq_getElem hk']
  exact .v _
theorem tab_of{W:World}{name:String}{d:DataW Unit}{G:Nat}{t e:TypeId}{n:Nat}{k:IntKind}{zs:List Int}(h:VarReads Tryz.prog W name d)(hd:d=tabData k zs)(hG:Tryz.prog.globalNamed name=some G)(hty:(Tryz.prog.globals[G]?).map (·.type)=some t)
  (ht:Tryz.prog.underlying t=some (.array n e)) (he:Tryz.prog.underlying e=some (.int k)) (h1:Tryz.prog.cellsOf e=1) (hn:Tryz.prog.cellsOf t=n):TabIs Tryz.prog W name k zs:=by
 obtain⟨g,t',cs,fuel,p,g1,g2,g3,g4⟩:=h
 obtain rfl:=Option.some.inj (hG.symm.trans g1)
 obtain rfl:=Option.some.inj (hty.symm.trans g2)
 rw[hd]at g4
 have:=cells_of_tab ht he h1 hn g4
 unfold TabIs
 rw[g3,← this]
theorem pc_tab{W:World}{name:String}{G:Nat}{k:IntKind}{zs:List Int}(h:TabIs Tryz.prog W name k zs)(hG:Tryz.prog.globalNamed name=some G):R (M0 W) (.pc ((zs.map fun z=>Value.int k z).map AV.v)) (.pointer (some ⟨G,0,none⟩)):=by
 refine pcs_of fun i hi=> ?_
 have hi':i<zs.length:=by simpa using hi
 have:=h.cell hG i hi'
 rw[this]
 simp[hi']
theorem globOK{W:World}(hL:laidMet Tryz.prog Rows.printerBackRow.laid W)(hsh:W.ShapedOpen Tryz.prog):GlobOK Tryz.prog W:=by
 have hpow:=laidMet.reads hL (n:= "internal/strconv.uint64pow10") (d:=Rows.laid_internal_strconv_uint64pow10) (by simp[Rows.printerBackRow])
 refine⟨fun g l h=> ?_,?_,?_⟩
 ·simp only[Glob.av]at h
  split at h
  ·cases h
   exact glob_strs (laidMet.reads hL (n:= "asof/checker.aggregates") (d:=Rows.laid_asof_checker_aggregates) (by simp[Rows.printerBackRow])) (by kernel_rfl) (by kernel_rfl) (by rfl) (by decide)
  ·cases h
   exact glob_strs (laidMet.reads hL (n:= "asof/checker.unary") (d:=Rows.laid_asof_checker_unary) (by simp[Rows.printerBackRow])) (by kernel_rfl) (by kernel_rfl) (by rfl) (by decide)
  ·cases h
   exact glob_strs (laidMet.reads hL (n:= "asof/checker.binary") (d:=Rows.laid_asof_checker_binary) (by simp[Rows.printerBackRow])) (by kernel_rfl) (by kernel_rfl) (by rfl) (by decide)
  ·cases h
   obtain⟨m,hm⟩:=cell_of_shapedOpen_int (g:=3) (zero:= #[.int .i64 0]) (t:=3) hsh (of_decide_eq_true (by kernel_rfl)) (by kernel_rfl) rfl (by kernel_rfl) (by kernel_rfl) Tryz.underlying3
   exact pc_of hm (.ai .i64 m)
  ·cases h
   have h1:=tab_of (k:= .i64) (zs:=[1,10,100,1000,10000,100000,1000000]) (n:=7) (G:=4) (t:=201) (e:=3) (laidMet.reads hL (n:= "asof/decimal.tens") (d:=Rows.laid_asof_decimal_tens) (by simp[Rows.printerBackRow])) (by rfl) (by kernel_rfl) (by kernel_rfl) Tryz.underlying201 Tryz.underlying3 (by kernel_rfl) (by kernel_rfl)
   exact pc_tab h1 (by kernel_rfl)
  ·cases h
   obtain⟨g,t,cs,fuel,p,h1,h2,h3,h4⟩:=laidMet.reads hL (n:= "strconv.ErrRange") (d:=Rows.laid_strconv_ErrRange) (by simp[Rows.printerBackRow])
   have hG:Tryz.prog.globalNamed "strconv.ErrRange" =some 9:=by kernel_rfl
   obtain rfl:=Option.some.inj (hG.symm.trans h1)
   have hty:(Tryz.prog.globals[9]?).map (·.type)=some 115:=by kernel_rfl
   obtain rfl:=Option.some.inj (hty.symm.trans h2)
   have hc0:=World.var?_cell hG h3 0
   have hstar: "*" ++ "errors.errorString" = "*errors.errorString" :=by decide
   cases fuel with
   |zero=>simp[DataW.trod]at h4
   |succ fuel=>
    unfold DataW.trod at h4
    rw[Tryz.underlying115]at h4
    clear hL hsh hpow h1 h2 hty h3
    generalize hcl:cs.toList=l at h4
    have e0:cs[0]? =l[0]? :=by rw[← hcl];simp
    rw[e0]at hc0
    clear e0 hcl
    have key:∃ u v,l=[.iface u v]∧Tryz.prog.typeName? 3 u=some "*errors.errorString" :=by
     unfold Rows.laid_strconv_ErrRange at h4
     split at h4
     all_goals first|(exfalso;rename_i heq;cases heq;done)|(exfalso;cases h4;done)|skip
     rename_i u v _
     refine⟨u,v,rfl,?_⟩
     cases hn:Tryz.prog.typeName? 3 u with
     |none=>rw[hn]at h4;cases h4
     |some nm=>
      rw[hn]at h4
      simp only[Option.map_eq_some_iff,Prod.mk.injEq,DataW.iface.injEq]at h4
      obtain⟨_,_,⟨rfl,_⟩,_⟩:=h4
      rfl
    obtain⟨u,v,rfl,hu⟩:=key
    obtain rfl:u=258:=typeName_ptr_named (nm:= "errors.errorString") (by rw[hstar];kernel_rfl) (by kernel_rfl) (by decide) u (by rw[hstar];exact hu)
    exact pc_of (hc0.trans rfl) (.ifc _ _ v (.any v))
  ·cases h
   have h1:=tab_of (k:= .u8) (zs:=firstTab) (n:=256) (G:=5) (t:=94) (e:=5) (laidMet.reads hL (n:= "unicode/utf8.first") (d:=Rows.laid_unicode_utf8_first) (by simp[Rows.printerBackRow])) (by kernel_rfl) (by kernel_rfl) (by kernel_rfl) Tryz.underlying94 Tryz.underlying5 (by kernel_rfl) (by kernel_rfl)
   have:=pc_tab h1 (G:=5) (by kernel_rfl)
   rw[show(firstTab.map fun z=>Value.int .u8 z).map AV.v=(List.range 256).map fun c=>AV.v (.int .u8 (Lib.firstT c:Nat)) by unfold firstTab;rw[List.map_map,List.map_map];rfl]at this
   exact this
  ·cases h
   have h4:=laidMet.reads hL (n:= "unicode/utf8.acceptRanges") (d:=Rows.laid_unicode_utf8_acceptRanges) (by simp[Rows.printerBackRow])
   rw[show(Rows.laid_unicode_utf8_acceptRanges:DataW Unit)=acceptData by kernel_rfl]at h4
   have hcell:∀ i,i<16→W.cell? ⟨6,2 * i,none⟩=some (.int .u8 (Lib.accLo i:Nat))∧W.cell? ⟨6,2 * i+1,none⟩=some (.int .u8 (Lib.accHi i:Nat)):=fun i hi=>by
    obtain⟨g,t,cs,fuel,p,hg,hty,hvar,hd⟩:=h4
    have hG:Tryz.prog.globalNamed "unicode/utf8.acceptRanges" =some 6:=by kernel_rfl
    obtain rfl:=Option.some.inj (hG.symm.trans hg)
    have hty':(Tryz.prog.globals[6]?).map (·.type)=some 234:=by kernel_rfl
    obtain rfl:=Option.some.inj (hty'.symm.trans hty)
    obtain⟨fuel',d,q,hdi,he⟩:=array_elem Tryz.underlying234 hd i hi
    simp only[List.getElem?_map,List.getElem?_range hi,Option.map_some,Option.some.injEq]at hdi
    subst hdi
    have c2:Tryz.prog.cellsOf 233=2:=by kernel_rfl
    rw[c2]at he
    have hcs:=ints_of_struct Tryz.underlying233 (fun j f hj=>by
     match j,hj with
     |0,hj=>simp at hj;subst hj;exact⟨Tryz.underlying5,rfl,by kernel_rfl⟩
     |1,hj=>simp at hj;subst hj;exact⟨Tryz.underlying5,rfl,by kernel_rfl⟩
     |j+2,hj=>simp at hj) (by rw[c2];rfl) he
    have e0:=congrArg (·[0]?) hcs
    have e1:=congrArg (·[1]?) hcs
    simp only[List.getElem?_take,List.getElem?_drop]at e0 e1
    constructor
    ·rw[World.var?_cell hG hvar (2 * i),← Array.getElem?_toList]
     simpa[Nat.mul_comm]using e0
    ·rw[World.var?_cell hG hvar (2 * i+1),← Array.getElem?_toList]
     simpa[Nat.mul_comm]using e1
   have hl:((List.range 16).flatMap fun i=>[AV.v (.int .u8 (Lib.accLo i:Nat)),AV.v (.int .u8 (Lib.accHi i:Nat))])=(((List.range 16).flatMap fun i=>[(Value.int .u8 (Lib.accLo i:Nat)),(Value.int .u8 (Lib.accHi i:Nat))]).map AV.v):=by kernel_rfl
   rw[hl]
   refine pcs_of fun k hk=> ?_
   have hk':k<32:=hk
   have key:∀ i:Fin 16,((List.range 16).flatMap fun i=>[(Value.int .u8 (Lib.accLo i:Nat)),(Value.int .u8 (Lib.accHi i:Nat))])[2 * i.val]? =some (Value.int .u8 (Lib.accLo i.val:Nat))∧
     ((List.range 16).flatMap fun i=>[(Value.int .u8 (Lib.accLo i:Nat)),(Value.int .u8 (Lib.accHi i:Nat))])[2 * i.val+1]? =some (Value.int .u8 (Lib.accHi i.val:Nat)):=by
    rintro⟨i,hi⟩
    have:i=0∨i=1∨i=2∨i=3∨i=4∨i=5∨i=6∨i=7∨i=8∨i=9∨i=10∨i=11∨i=12∨i=13∨i=14∨i=15:=by omega
    rcases this with rfl|rfl|rfl|rfl|rfl|rfl|rfl|rfl|rfl|rfl|rfl|rfl|rfl|rfl|rfl|rfl<;>exact⟨rfl,rfl⟩
   obtain⟨k1,k2⟩:=key ⟨k / 2,by omega⟩
   obtain⟨c1,c2⟩:=hcell (k / 2) (by omega)
   rcases Nat.mod_two_eq_zero_or_one k with e|e
   ·rw[show 2 * (k / 2)=k by omega]at c1 k1
    rw[c1,← k1,List.getElem?_eq_getElem hk]
   ·rw[show 2 * (k / 2)+1=k by omega]at c2 k2
    rw[c2,← k2,List.getElem?_eq_getElem hk]
  ·cases h
 ·exact tab_of (G:=7) hpow (by rfl) (by kernel_rfl) (t:=242) (n:=20) (e:=210) (by kernel_rfl) Tryz.underlying242 Tryz.underlying210 (by kernel_rfl) (by kernel_rfl)
 ·obtain⟨g,t,cs,fuel,p,h1,h2,h3,h4⟩:=hpow
  have hG:Tryz.prog.globalNamed "internal/strconv.uint64pow10" =some 7:=by kernel_rfl
  simp only[World.var?,hG,Option.bind_some]at h3
  split at h3
  ·rename_i e
   exact(Array.getElem?_eq_some_iff.1 e).1
  ·cases h3
end Go.Proofs.YtbihckigennlhaaGreatDoor
