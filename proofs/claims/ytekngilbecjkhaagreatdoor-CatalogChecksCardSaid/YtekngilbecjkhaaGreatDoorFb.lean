/- CatalogFinds. -/
import Derived.Test.YtekngilbecjkhaaGreatDoorEd
set_option linter.unusedSimpArgs false
set_option linter.unusedVariables false
set_option maxRecDepth 100000
set_option maxHeartbeats 4000000
namespace Go.Sx
theorem Pure.wkr{P:Program}[Glob P]{f:FuncId}{xs:List AV}{r r':AV}(h:Pure P f xs r)(hw:Wk r r'):Pure P f xs r':=
 ⟨fun σ=>(h.sp σ).weak fun q σ' ⟨e1,e2⟩=>⟨.ret r',σ,⟨rfl,rfl⟩,by subst e2;exact .refl _,by subst e1;exact hw⟩⟩
end Go.Sx
namespace Go.Proofs.YtekngilbecjkhaaGreatDoor
open Go.Sx Go.Proofs Go.Tb
def zfe:Fea:=⟨s0,s0,⟨0,[],s0⟩,⟨0,s0,s0,s0,⟨0,0,s0⟩,[],0,⟨0,0⟩,[]⟩,0⟩
def zta:Tab:=⟨s0,s0,[],0⟩
def gotF(o:Option Fea):AV:= .tup [.agg (o.getD zfe).cells,.v (.bool o.isSome)]
theorem got_wk(o:Option Fea):Wk (foundF o) (gotF o):=by
 cases o with
 |some f=>exact Wk.refl _
 |none=>
  refine .tup (.cons (.agg ?_) (.cons (Wk.refl _) .nil))
  repeat' first|exact .refl _|exact .nil|refine .cons ?_ ?_
theorem findR_ok(fs:List Fea)(n:Str):Pure Tryz.prog 60 [.sl false 18 (fs.map Fea.cells),sv n] (gotF (findF fs n)):=(find12_ok fs n _ rfl).wkr (got_wk _)
theorem featR_ok(c:Cat)(n:Str):Pure Tryz.prog 31 [.agg c.cells,sv n] (gotF (findF c.features n)):=by
 refine Pure.runk (fun _=>0) Tryz.func31 comp31 era31 (Nat.le_of_ble_eq_true rfl) fun σ=> ?_
 repeat'(first|exact .nil|refine .k0 ?_|refine .k1 ?_|refine .k2 ?_|refine .k7 ?_|refine .r1 ?_ ?_|(refine .l1 ?_;intro b)|(refine .m1 ?_ ?_;intro b)|refine .an rfl (by intro hob;exact findR_ok _ _) ?_ ?_|fail)
 all_goals(try simp only[BL]at *)
 exact Zw
def findT(ts:List Tab)(n:Str):Option Tab:=ts.find? fun t=>decide (t.name=n)
theorem findT_no{ts:List Tab}{n:Str}(h:∀ j,j<ts.length→¬(ts.getD j default).name=n):findT ts n=none:=by
 unfold findT
 rw[List.find?_eq_none]
 intro x hx
 obtain⟨j,hj,rfl⟩:=List.getElem_of_mem hx
 have:=h j hj
 rw[getD_eq hj]at this
 simpa using this
theorem findT_at{ts:List Tab}{n:Str}{i:Nat}(hi:i<ts.length)(h:∀ j,j<i→¬(ts.getD j default).name=n)(hn:(ts.getD i default).name=n):findT ts n=some (ts.getD i default):=by
 unfold findT
 rw[getD_eq hi]at hn ⊢
 rw[List.find?_eq_some_iff_getElem]
 refine⟨by simpa using hn,i,hi,rfl,fun j hj=> ?_⟩
 have:=h j hj
 rw[getD_eq (Nat.lt_trans hj hi)]at this
 simpa using this
def sortL:List Str→List Str
 |[]=>[]
 |s::l=>putL (sortL l) s
theorem sortL_mem{x:Str}:∀ {l:List Str},x∈sortL l↔x∈l
 |[]=>Iff.rfl
 |s::l=>by rw[sortL,putL_mem,sortL_mem (l:=l),List.mem_cons]
theorem sortL_srt:∀ l:List Str,Srt (sortL l)
 |[]=>srt_nil
 |s::l=>putL_srt (sortL_srt l)
open Classical in
theorem direct_nil(x:Ex)(hz:x.size≤5000):Pure Tryz.prog 22 [.agg x.row,nilA,nilA] (.tup [strsA (dirF x),strsA (dirT x)]):=dirR_nil x (by have:=feats_size x;omega) (by have:=feats_size x;omega)
theorem got_small{c:Cat}(hs:Small c)(hc:c.Fits)(n:Str):((findF c.features n).getD zfe).body.size≤5000∧((findF c.features n).getD zfe).body.wt≤2 ^ 60:=by
 cases h:findF c.features n with
 |none=>exact⟨by decide+kernel,by decide+kernel⟩
 |some f=>have hm:=(findF_mem h).1;exact⟨by have:=body_size hs hm;simp only[Option.getD_some];omega,hc.b f hm⟩
theorem least_nat{p:Nat→Prop}:∀ n,p n→∃ m,p m∧∀ k,p k→m≤k:=by
 intro n
 induction n using Nat.strongRecOn with
 |_ n ih=>
  intro h
  by_cases hk:∃ k,k<n∧p k
  ·obtain⟨k,h1,h2⟩:=hk;exact ih k h1 h2
  ·exact⟨n,h,fun k hp=>by
    rcases Nat.lt_or_ge k n with h1|h1
    ·exact absurd ⟨k,h1,hp⟩ hk
    ·exact h1⟩
open Classical in
theorem dst_ex(g:Str→List Str)(b:Str):∃ d,Dst g b d:=by
 refine⟨fun x=>if h:∃ k,Stp g k x b then(least_nat (p:=fun k=>Stp g k x b) h.choose h.choose_spec).choose else 1000,fun x hx=> ?_,fun k x hk=> ?_⟩
 ·by_cases h:∃ k,Stp g k x b
  ·simp only[dif_pos h];exact(least_nat (p:=fun k=>Stp g k x b) h.choose h.choose_spec).choose_spec.1
  ·simp only[dif_neg h]at hx;omega
 ·have h:∃ k,Stp g k x b:=⟨k,hk⟩
  simp only[dif_pos h];exact(least_nat (p:=fun k=>Stp g k x b) h.choose h.choose_spec).choose_spec.2 k hk
theorem gre_ex{g:Str→List Str}{b:Str}{d:Str→Nat}(hd:Dst g b d):∀ (n:Nat) (a:Str),d a=n+1→d a<1000→∃ l,Gre g d n a l
 |0,a,_,_=>⟨[],.nil⟩
 |n+1,a,ha,h1=>by
  obtain⟨c,hc⟩:=hd.next ha h1
  have hdc:d c=n+1:=by simpa using List.find?_some hc
  obtain⟨l,hl⟩:=gre_ex hd n c hdc (by omega)
  exact⟨c::l,.cons hc hl⟩
theorem short_nodup{g:Str→List Str}{a:Str}{q:List Str}(hc:Cyc g a q)(hs:∀ m,Cyc g a m→q.length≤m.length):(a::q).Nodup:=by
 refine List.nodup_cons.2 ⟨fun hm=> ?_,?_⟩
 ·obtain⟨x,y,e⟩:=List.append_of_mem hm
  have hp:=hc.1
  rw[e]at hp
  have:=hs x ⟨hp.left,(hp.right (l:=x)).1⟩
  rw[e,List.length_append,List.length_cons]at this;omega
 ·by_cases hd:q.Nodup
  ·exact hd
  ·exfalso
   have split:∀ q:List Str,¬q.Nodup→∃ x c y z,q=x++c::y++c::z:=fun q=>by
    induction q with
    |nil=>intro h;exact absurd .nil h
    |cons b q ih=>
     intro h
     by_cases hb:b∈q
     ·obtain⟨x,y,rfl⟩:=List.append_of_mem hb
      exact⟨[],b,x,y,by simp⟩
     ·obtain⟨x,c,y,z,e⟩:=ih fun hq=>h (List.nodup_cons.2 ⟨hb,hq⟩)
      exact⟨b::x,c,y,z,by rw[e];simp⟩
   obtain⟨x,c,y,z,e⟩:=split q hd
   have hp:=hc.1
   have hl:=hc.2
   rw[e]at hp hl
   have h1:Pth g a x:=by rw[List.append_assoc]at hp;exact hp.left
   have h2:c∈g (lst a x):=by rw[List.append_assoc]at hp;exact(hp.right (l:=x)).1
   have h3:Pth g c z:=(hp.right (l:=x++c::y)).2
   have h4:lst a (x++c::y++c::z)=lst c z:=by rw[lst_app];rfl
   rw[h4]at hl
   have h5:Cyc g a (x++c::z):=⟨Pth.app h1 ⟨h2,h3⟩,by rw[lst_app];exact hl⟩
   have:=hs _ h5
   rw[e]at this
   simp at this
   omega
theorem best_ex{g:Str→List Str}(hg:∀ n,Srt (g n)){N:List Str}(hN:∀ x y,y∈g x→y∈N)(hl:N.length<999){a:Str}{q:List Str}(hc:Cyc g a q)(hs:∀ m,Cyc g a m→q.length≤m.length):∃ l,Best g a l∧l.length=q.length:=by
 obtain⟨d,hd⟩:=dst_ex g a
 have hq:q.length<999:=by
  have hnd:=(List.nodup_cons.1 (short_nodup hc hs)).2
  have hsub:∀ (q:List Str) (a:Str),Pth g a q→∀ s∈q,s∈N:=fun q=>by
   induction q with
   |nil=>intro a _ s h;cases h
   |cons b q ih=>
    intro a hp s h
    rcases List.mem_cons.1 h with rfl|h
    ·exact hN _ _ hp.1
    ·exact ih b hp.2 s h
  have:=nodup_le hnd (hsub q a hc.1)
  omega
 have h1:d a≤q.length+1:=hd.l _ _ (hc.1.stp hc.2)
 have h2:=hd.r a (by omega)
 have h3:=h2.pos
 obtain⟨l,hgr⟩:=gre_ex hd (d a-1) a (by omega) (by omega)
 have hb:=Gre.isBest hg hd hgr (by omega) (by omega)
 exact⟨l,hb,Nat.le_antisymm (hb.s q hc) (hs l hb.c)⟩
theorem cycL_is(g:Str→List Str)(hg:∀ n,Srt (g n)){N:List Str}(hNs:Srt N)(hN:∀ x y,y∈g x→y∈N)(hl:N.length<999):IsCyc g N (cycL g N):=by
 have ex:∃ l,IsCyc g N l:=by
  by_cases h0:∃ a∈N,∃ q,Cyc g a q
  ·obtain⟨a1,ha1,q1,hq1⟩:=h0
   obtain⟨k,⟨a0,ha0,q0,hq0,hk0⟩,hmin⟩:=least_nat (p:=fun k=>∃ a∈N,∃ q,Cyc g a q∧q.length=k) q1.length ⟨a1,ha1,q1,hq1,rfl⟩
   classical
   have hsome:(N.find? fun a=>decide (∃ q,Cyc g a q∧q.length=k)).isSome:=by
    rw[List.find?_isSome];exact⟨a0,ha0,by simpa using⟨q0,hq0,hk0⟩⟩
   obtain⟨a,ha⟩:=Option.isSome_iff_exists.1 hsome
   have haN:=List.mem_of_find?_eq_some ha
   have hp:=List.find?_some ha
   simp only[decide_eq_true_eq]at hp
   obtain⟨q,hq,hqk⟩:=hp
   obtain⟨l,hb,hbl⟩:=best_ex hg hN hl hq (fun m hm=>by rw[hqk];exact hmin _ ⟨a,haN,m,hm,rfl⟩)
   refine⟨a::l,.inr ⟨a,l,rfl,haN,hb,fun b hbN hlt m hm=> ?_,fun b hbN m hm=>by rw[hbl,hqk];exact hmin _ ⟨b,hbN,m,hm,rfl⟩⟩⟩
   have h1:=hmin _ ⟨b,hbN,m,hm,rfl⟩
   rcases Nat.eq_or_lt_of_le h1 with h2|h2
   ·exfalso
    rcases fst_least hNs ha b hbN (by simpa using⟨m,hm,h2.symm⟩)with h3|h3
    ·rw[h3,sLt_irrefl]at hlt;cases hlt
    ·rw[sLt_asymm h3]at hlt;cases hlt
   ·omega
  ·exact⟨[],.inl ⟨rfl,fun a ha q hq=>h0 ⟨a,ha,q,hq⟩⟩⟩
 obtain⟨l,hl⟩:=ex
 rw[cycL_eq hl];exact hl
end Go.Proofs.YtekngilbecjkhaaGreatDoor
