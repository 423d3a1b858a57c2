import Derived.Test.YtmemninechdogaaGreatDoorCf
import Derived.WalkLawsBesides
import Derived.WalkSpells
set_option linter.all false
namespace Go.Proofs.YtmemninechdogaaGreatDoor
open _root_.Go.Proofs.Tryz
open Go.RowKit Go.Proofs Go.Tb Go.Maps
structure Hd(p:Prop):Prop where
 out:p
theorem least{p:Nat->Prop}(h:∃n,p n):∃n,p n/\∀m,p m->n<=m:=by
 obtain⟨n,hn⟩:=h
 induction n using Nat.strongRecOn with
 |ind n ih=>grind
open Classical in
noncomputable def mu(p:Nat->Prop):Nat:=if h:∃n,p n then(least h).choose else 0
theorem ahS{p:Nat->Prop}(h:∃n,p n):p (mu p):=by unfold mu;rw[dif_pos h];exact(least h).choose_spec.1
theorem ahQ{p:Nat->Prop}{n:Nat}(h:p n):mu p<=n:=by
 have h':∃n,p n:=⟨n,h⟩
 unfold mu;rw[dif_pos h'];exact(least h').choose_spec.2 n h
theorem ahR{p q:Nat->Prop}{n:Nat}(h:q n)(hn:n<mu p):mu q<mu p:=Nat.lt_of_le_of_lt (ahQ h) hn
def qL(q:ae->Bool):Lit->Bool
 |.string x=>q ⟨x.toArray⟩|_=>true
theorem Kw(q:ae->Bool)(s:ae):qL q (ky s)=q s:=by unfold qL ky;simp
theorem adC{D:DataW Unit}(hT:IsMap D)(q:ae->Bool)(s:ae):has (Lib.deleteFuncD (fun l _=>!qL q l) D) (ky s)=(has D (ky s)&&q s):=by
 obtain⟨es,rfl⟩:=hT;show has (.map (es.filter fun p=>!(!qL q p.1))) (ky s)=_;rw[has_eq,has_eq,List.any_filter];rw[YH,Z6,Yh,Yh];constructor
 .rintro⟨p,hp,h⟩;rw[Z6,Bool.not_not]at h;have e:=WideAt.sameKey_eq h.2;rw[e,Kw]at h;grind
 .rintro⟨⟨p,hp,h⟩,hq⟩;refine⟨p,hp,?_⟩;have e:=WideAt.sameKey_eq h;rw[e,Kw];grind
theorem alJ{P:Program}{k:TypeId}{R:Value->Option (DataW Unit×List MemPlace)}{w w':World}{b:Nat}{L:List ae}{f:ae->DataW Unit}(hk:P.underlying k=some .string)(q:ae->Bool){D:DataW Unit}(h1:L.Nodup)(h2:∀s∈L,s.size<=maxLen)(h3:w.ownsMap P k R b L.length D)(h4:∀s:ae,s.size<=maxLen->has D (ky s)=decide (s∈L))(h5:∀s∈L,∀z,D.atKey (ky s) z=f s)
  (h6:w'.ownsMap P k R b L.length (Lib.deleteFuncD (fun l _=>!qL q l) D)):dt w' P k R b (L.filter q) f:=by
 have hT:=h3.tidy (string_keyed hk);have h7:∀s:ae,s.size<=maxLen->has (Lib.deleteFuncD (fun l _=>!qL q l) D) (ky s)=decide (s∈L.filter q):=fun s hs=>by rw[adC hT.isMap,h4 s hs];grind
 refine⟨h1.filter _,fun s hs=>h2 s (Y6.1 hs).1,_,?_,h7,fun s hs z=>?_⟩
 .have BE:=TF h6 hk;have jJ:∀x∈(strKeys (Lib.deleteFuncD (fun l _=>!qL q l) D)).map (fun l:List UInt8=>(⟨l.toArray⟩:ae)),x∈L.filter q:=fun x hx=>by obtain⟨y,hy,rfl⟩:=Ze.1 hx;have h8:=(J8 h6 hk y).1 hy;have h9:=strKeys_le h6 hk y hy;have:=h7 ⟨y.toArray⟩ (by assumption);rw[show ky (⟨y.toArray⟩:ae)= .string y by rfl,h8]at this;grind
  have adV:((strKeys (Lib.deleteFuncD (fun l _=>!qL q l) D)).map (fun l:List UInt8=>(⟨l.toArray⟩:ae))).Nodup:=Xe.2 (BE.imp fun {a b} xX e=>xX (by grind));have hl:=jh adV jJ;rw[Z5]at hl;obtain⟨es,c,a1,a2,a3,a4⟩:=h6;have e:(strKeys (Lib.deleteFuncD (fun l _=>!qL q l) D)).length=es.size:=by rw[a4];show(List.map _ _).length=_;rw[Z5,length_read]
  exact⟨es,c,a1,a2,by omega,a4⟩
 .obtain⟨es,rfl,O4⟩:=hT;have hm:=Y6.1 hs;have h8:=h4 s (h2 s hm.1);rw[Y7 hm.1,has_eq,Yh]at h8;obtain⟨p,hp,hpk⟩:=h8;have e:=WideAt.sameKey_eq hpk;have mQ:(ky s,p.2)∈es:=by grind
  have h9:=(WideAt.atKey_mem .nil (yf s) O4 mQ).symm.trans (h5 s hm.1 .nil);rw[← h9];refine WideAt.atKey_mem z (yf s) (O4.filter _) (Y6.2 ⟨mQ,?_⟩);rw[Bool.not_not];rw[Kw];grind
abbrev qN(w:World)(b:Nat)(L:List ae)(f:ae->Nat):Prop:=maps w prog 9 b L f
set_option maxRecDepth 100000 in
theorem aer{W:World}{bA pa:Nat}{N:List ae}{f:ae->Nat}(hA:qN W bA N f)(hc:W.cell? ⟨pa,0,none⟩=some (.map (some bA)))(s:ae)(hs:s.size<=maxLen)(v:Value):
  Calls prog 189 #[.string s,v,.pointer (some ⟨pa,0,none⟩)] W fun e w'=>e= .returned (.bool (decide (s∉N)))/\w'=W:=by
 have iQ:∀(w:World) (r:Option Nat),(binOp .eql 210 (.map r) (.map none)).run prog w= .ok (.bool r.isNone) w:=fun w r=>run_eql_map_nil w _ _ _ r underlying210
 go_enter func189,ntmps189
 go_wp2_with (at_lookup;refine BT _ rfl _ _ 204 rfl underlying9 underlying204 (zeroValue210 _) bA N f rfl hA s rfl hs ?_)
 all_goals go_ret
 all_goals simp_all
theorem alm{W:World}{b bA pa:Nat}{L N:List ae}{f:ae->Nat}(hL:cz W b L)(hA:qN W bA N f)(hc:W.cell? ⟨pa,0,none⟩=some (.map (some bA)))(aW:b≠bA):
  Calls prog 188 #[.map (some b),.func (.func 189) #[] #[.pointer (some ⟨pa,0,none⟩)]] W fun e w'=>e= .returned (.tuple #[])/\cz w' b (L.filter fun s=>decide (s∈N))/\W.grownBy w' (some b):=by
 have hpb:pa≠b:=fun e=>by subst e;obtain⟨es,c,h⟩:=hL.isMap;simp[World.cell?,h]at hc
 obtain⟨h1,h2,D,h3,h4,h5⟩:=hL;refine(AnyDf.maps_DeleteFunc (H:=Unit) Tryz.del188 (string_keyed underlying9) (plainElem prog 4) (fun l _=>!qL (fun s=>decide (s∈N)) l) 189 #[.pointer (some ⟨pa,0,none⟩)] b L.length D W (enters_of func189 (by kernel_rfl) rfl) h3 ?_).mono fun e w' ⟨he,hw,hg⟩=>⟨he,alJ underlying9 _ h1 h2 h3 h4 h5 hw,hg⟩
 intro W' key val kl yd yp lU Ax hv;obtain⟨x,rfl,rfl,hx⟩:=Maps.keyOf_str underlying9 Ax;have ri:qN W' bA N f:=hA.kept lU (by simpa using fun e=>aW e.symm);have gG:W'.cell? ⟨pa,0,none⟩=some (.map (some bA)):=(World.cell?_of_block (a:=⟨pa,0,none⟩) (lU.block pa (World.block_lt_of_cell? _ _ hc) (by simpa using hpb))).trans hc;have IW:encStr x= .string ⟨x.toArray⟩:=by simp[encStr]
 rw[IW];refine(aer ri gG ⟨x.toArray⟩ (by show x.toArray.size<=_;simpa using hx) val).mono fun e w' ⟨he,hw⟩=>⟨?_,?_⟩
 .rw[he];simp[qL]
 .rw[hw];exact⟨rfl,rfl,rfl,ZO _,fun _ _ _=>rfl⟩
