import Derived.Test.YtmemninechdogaaGreatDoorEa
set_option linter.all false
set_option maxRecDepth 100000
set_option maxHeartbeats 4000000
namespace Go.Proofs.YtmemninechdogaaGreatDoor
open _root_.Go.Proofs.Tryz
open Go.Sx Go.Proofs Go.Tb
theorem Ti(u:List ax):Pure prog 140 [.sl false 2 (u.map ax.cells),.sl false 2 (u.map ax.cells)] (.v (.bool true)):=by
 refine Qt.p fun X=>?_;repeat'(first|exact .nil|refine .k ?_|grind|(refine .cd ?_ ?_<;>(simp_all))|refine .r1 ?_ ?_|(refine .m2 ?_ ?_;intro hlen)|fail)
 all_goals(try grind)
 all_goals first|grind|skip
 refine aP (fun n rg af=>∃i:Nat,i<=u.length/\n=u.length-i/\af=X/\rg=[(0,.sl false 2 (u.map ax.cells)),(1,.sl false 2 (u.map ax.cells)),(5,iv i)]) u.length rfl ⟨_,_,Zr,Zs,0,Z4 _,rfl,rfl,rfl⟩ ?_;rintro n _ _ ⟨i,hi,hn,rfl,rfl⟩;repeat'(first|exact .nil|refine .k ?_|(refine .cd ?_ ?_<;>intro hc)|refine .r1 ?_ ?_|(refine .m2 ?_ ?_;intro hlen)|refine .t1 ?_ ?_ ?_|fail)
 try any_goals(exact Zo)
 all_goals(try simp only[BL]at*)
 all_goals first|(exfalso;simp at hc;done)|(refine⟨u.length-(i+1),by omega,_,_,Zr,Zs,i+1,by omega,rfl,rfl,by rw[bj (n:=u.length) (by omega) (by assumption)]⟩)|(show Sx.Fin _ _ _ _;(refine Sx.Fin.wk Zs ?_;repeat' first|exact .refl _|fail);done)|fail
theorem Th(t:Ty):Pure prog 84 [.agg t.cells,.agg t.cells] (.v (.bool true)):=by
 refine QP.p fun X=>?_;repeat'(first|exact .nil|refine .k ?_|grind|refine .r1 ?_ ?_|(refine .m1 ?_ ?_;intro b)|refine .an rfl (by intro ar;exact Ti _) ?_ ?_|fail)
 all_goals(simp_all)
 exact Zw
def Cj(x:Ex):Prop:=Pure prog 141 [.agg x.row,.agg x.row] (.v (.bool true))
theorem akU(x:Ex)(ih:∀i,i<x.args.length->Cj (x.args.getD i default)):Cj x:=by
 unfold Cj;rw[Ex.dX x];refine Qu.p fun X=>?_;repeat'(first|exact .nil|refine .k ?_|omega|refine .k ?_|omega|refine .k ?_|(refine .cd ?_ ?_<;>intro hc)|refine .r1 ?_ ?_|(refine .m1 ?_ ?_;intro b)|(refine .m2 ?_ ?_;intro hlen)|refine .an rfl (by intro ar;exact Ti _) ?_ ?_|fail)
 try any_goals(exact Zo)
 all_goals(try simp only[BL]at*)
 .exfalso;simp at hc
 clear hc;rename_i b2 _;refine aP (fun n rg af=>∃i:Nat,i<=x.args.length/\n=x.args.length-i/\af=(3,b,aE.cells x.lay)::(2,b2,aE.cells x.lay)::X/\rg=[(2,.lp 2 b2 0),(3,.lp 3 b 0),(5,iv i)]) x.args.length rfl ⟨_,_,Zr,Zs,0,Z4 _,rfl,rfl,rfl⟩ ?_;rintro n _ _ ⟨i,hi,hn,rfl,rfl⟩;have hA:i<x.args.length->Pure prog 141 [.agg (x.args.getD i default).row,.agg (x.args.getD i default).row] (.v (.bool true)):=ih i;repeat'(first|exact .nil|refine .k ?_|(refine .cd ?_ ?_<;>intro hc)|refine .r1 ?_ ?_|(refine .m2 ?_ ?_;intro hlen)|refine .t1 ?_ ?_ ?_|refine .an rfl (by intro ar;first|exact hA (by(simp only[BL]at*;omega))|fail) ?_ ?_|fail)
 try any_goals(exact Zo)
 all_goals(try simp only[BL]at*)
 all_goals first|(exfalso;simp at hc;done)|(refine⟨x.args.length-(i+1),by omega,_,_,Zr,Zs,i+1,by omega,rfl,rfl,by rw[bj (n:=x.args.length) (by omega) (by assumption)]⟩)|(show Sx.Fin _ _ _ _;(refine Sx.Fin.wk Zs ?_;repeat' first|exact .refl _|fail);done)|fail
theorem Tj:∀(n:Nat) (x:Ex),x.size<=n->Cj x
 |0,x,h=>by cases x;simp[Ex.size]at h|n+1,x,h=>akU x fun k hk=>Tj n _ (by have:=Ex.BD x hk;omega)
theorem akV(x:Ex):Pure prog 141 [.agg x.row,.agg x.row] (.v (.bool true)):=Tj x.size x (ZO _)
theorem akP(f:aj):Pure prog 85 [.agg f.cells,.agg f.cells] (.v (.bool true)):=by
 refine QR.p fun X=>?_;repeat'(first|exact .nil|refine .k ?_|grind|refine .r1 ?_ ?_|(refine .m1 ?_ ?_;intro b)|refine .an rfl (by intro ar;first|exact Th _|exact akV _) ?_ ?_|fail)
 all_goals(simp_all)
 exact Zw
theorem akS(t:aO):Pure prog 37 [.agg t.cells,.agg t.cells] (.v (.bool true)):=by
 refine QF.p fun X=>?_;repeat'(first|exact .nil|refine .k ?_|omega|refine .k ?_|omega|refine .k ?_|(refine .cd ?_ ?_<;>intro hc)|refine .r1 ?_ ?_|(refine .m1 ?_ ?_;intro b)|(refine .m2 ?_ ?_;intro hlen)|fail)
 try any_goals(simp)
 all_goals(try simp only[BL]at*)
 .exfalso;simp at hc
 clear hc;rename_i b2 _;refine aP (fun n rg af=>∃i:Nat,i<=t.fields.length/\n=t.fields.length-i/\af=(3,b,aE.cells t.cells)::(2,b2,aE.cells t.cells)::X/\rg=[(2,.lp 2 b2 0),(3,.lp 3 b 0),(5,iv i)]) t.fields.length rfl ⟨_,_,Zr,Zs,0,Z4 _,rfl,rfl,rfl⟩ ?_;rintro n _ _ ⟨i,hi,hn,rfl,rfl⟩;repeat'(first|exact .nil|refine .k ?_|(refine .cd ?_ ?_<;>intro hc)|refine .r1 ?_ ?_|(refine .m2 ?_ ?_;intro hlen)|refine .t1 ?_ ?_ ?_|refine .an rfl (by intro ar;exact Th (t.fields.getD i default).type) ?_ ?_|fail)
 try any_goals(exact Zo)
 all_goals(try simp only[BL]at*)
 all_goals first|(exfalso;exact hc trivial)|(refine⟨t.fields.length-(i+1),by omega,_,_,Zr,Zs,i+1,by omega,rfl,rfl,by rw[bj (n:=t.fields.length) (by omega) (by assumption)]⟩)|(show Sx.Fin _ _ _ _;(refine Sx.Fin.wk Zs ?_;repeat' first|exact .refl _|fail);done)|fail
end Go.Proofs.YtmemninechdogaaGreatDoor
namespace Go.Sx
theorem Pure.LI{P:Program}[Glob P]{f:FuncId}{xs:List AV}{r r':AV}(h:Pure P f xs r)(hw:Wk r r'):Pure P f xs r':=
 ⟨fun X=>(h.sp X).weak fun q af ⟨e1,e2⟩=>⟨.ret r',X,⟨rfl,rfl⟩,by subst e2;exact .refl _,by grind⟩⟩
end Go.Sx
namespace Go.Proofs.YtmemninechdogaaGreatDoor
open _root_.Go.Proofs.Tryz
open Go.Sx Go.Proofs Go.Tb
def BZ:aj:=⟨s0,s0,⟨0,[],s0⟩,⟨0,s0,s0,s0,⟨0,0,s0⟩,[],0,⟨0,0⟩,[]⟩,0⟩
def F2:aO:=⟨s0,s0,[],0⟩
def zV(o:Option aj):AV:=.aG [.agg (o.getD BZ).cells,.v (.bool o.isSome)]
theorem Ie(o:Option aj):Wk (Om o) (zV o):=by
 cases o with
 |some f=>exact Wk.refl _|none=>refine .aG (.cons (.agg ?_) (.cons (Wk.refl _) .nil));repeat' first|exact .refl _|exact .nil|refine .cons ?_ ?_
theorem acR(fs:List aj)(n:ae):Pure prog 34 [.sl false 18 (fs.map aj.cells),sv n] (zV (findF fs n)):=by
 cases h:findF fs n with
 |none=>exact(acZ fs n h).LI (Ie none)|some f=>exact(ac2 fs n f h).LI (Ie (some f))
theorem acT(fs:List aj)(n:ae):Pure prog 226 [.sl false 18 (fs.map aj.cells),sv n] (zV (findF fs n)):=(acQ fs n _ rfl).LI (Ie _)
theorem aov(c:ay)(n:ae):Pure prog 14 [.agg c.cells,sv n] (zV (findF c.features n)):=by
 refine k14.p fun X=>?_;repeat'(first|exact .nil|refine .k ?_|refine .r1 ?_ ?_|refine .l1 fun b=>?_|(refine .m1 ?_ ?_;intro b)|refine .an rfl (by intro ar;first|exact acR _ _|fail) ?_ ?_|fail)
 exact Zw
theorem ab4(c:ay)(n:ae):Pure prog 10 [.agg c.cells,sv n] (zV (findF c.aD n)):=by
 refine k10.p fun X=>?_;repeat'(first|exact .nil|refine .k ?_|refine .r1 ?_ ?_|refine .l1 fun b=>?_|(refine .m1 ?_ ?_;intro b)|refine .an rfl (by intro ar;first|exact acR _ _|fail) ?_ ?_|fail)
 exact Zw
theorem NV(c:ay)(n:ae):Pure prog 165 [.agg c.cells,sv n] (zV (findF c.features n)):=by
 refine afC.p fun X=>?_;repeat'(first|exact .nil|refine .k ?_|refine .r1 ?_ ?_|refine .l1 fun b=>?_|(refine .m1 ?_ ?_;intro b)|refine .an rfl (by intro ar;exact acT _ _) ?_ ?_|fail)
 exact Zw
def lM(ts:List aO)(n:ae):Option aO:=ts.find? fun t=>decide (t.name=n)
theorem acV{ts:List aO}{n:ae}(h:∀j,j<ts.length->¬(ts.getD j default).name=n):lM ts n=none:=by unfold lM;rw[XD];intro x hx;obtain⟨j,hj,rfl⟩:=Zc hx;grind
theorem acU{ts:List aO}{n:ae}{i:Nat}(hi:i<ts.length)(h:∀j,j<i->¬(ts.getD j default).name=n)(hn:(ts.getD i default).name=n):lM ts n=some (ts.getD i default):=by unfold lM;rw[getD_eq hi]at hn|-;rw[Ya];grind
def gK:List ae->List ae
 |[]=>[]
 |s::l=>dm (gK l) s
theorem yL{x:ae}:∀{l:List ae},x∈gK l↔x∈l
 |[]=>Iff.rfl|s::l=>by rw[gK,wy,yL (l:=l),ZR]
theorem yM:∀l:List ae,bI (gK l)
 |[]=>qB|s::l=>yw (yM l)
theorem abV(x:Ex)(hz:x.size<=5000):Pure prog 166 [.agg x.row,ej,ej] (.aG [dJ (ny x),dJ (Nr x)]):=abR x (by have:=zM x;omega) (by have:=zM x;omega)
theorem Ej{p:Nat->Prop}:∀n,p n->∃m,p m/\∀k,p k->m<=k:=by
 intro n
 induction n using Nat.strongRecOn with
 |_ n ih=>grind
open Classical in
theorem Nv(g:ae->List ae)(b:ae):∃d,mr g b d:=by
 refine⟨fun x=>if h:∃k,eX g k x b then(Ej (p:=fun k=>eX g k x b) h.choose h.choose_spec).choose else 1000,fun x hx=>?_,fun k x hk=>?_⟩
 .by_cases h:∃k,eX g k x b
  .simp only[dif_pos h];exact(Ej (p:=fun k=>eX g k x b) h.choose h.choose_spec).choose_spec.1
  .simp only[dif_neg h]at hx;omega
 .have h:∃k,eX g k x b:=⟨k,hk⟩
  simp only[dif_pos h];exact(Ej (p:=fun k=>eX g k x b) h.choose h.choose_spec).choose_spec.2 k hk
theorem Ih{g:ae->List ae}{b:ae}{d:ae->Nat}(hd:mr g b d):∀(n:Nat) (a:ae),d a=n+1->d a<1000->∃l,jS g d n a l
 |0,a,_,_=>⟨[],.nil⟩
 |n+1,a,ha,h1=>by
  obtain⟨c,hc⟩:=hd.next ha h1;have hdc:d c=n+1:=by grind
  obtain⟨l,hl⟩:=Ih hd n c hdc (by omega);exact⟨c::l,.cons hc hl⟩
theorem Tn{g:ae->List ae}{a:ae}{q:List ae}(hc:fG g a q)(hs:∀m,fG g a m->q.length<=m.length):(a::q).Nodup:=by
 refine YQ.2 ⟨fun hm=>?_,?_⟩
 .obtain⟨x,y,e⟩:=Xh hm;have hp:=hc.1;rw[e]at hp;have:=hs x ⟨hp.left,(hp.right (l:=x)).1⟩;grind
 .by_cases hd:q.Nodup
  .exact hd
  .have split:∀q:List ae,¬q.Nodup->∃x c y z,q=x++c::y++c::z:=fun q=>by
    induction q with
    |nil=>grind|cons b q ih=>
     intro h;by_cases hb:b∈q
     .obtain⟨x,y,rfl⟩:=Xh hb;exact⟨[],b,x,y,by simp⟩
     grind
   obtain⟨x,c,y,z,e⟩:=split q hd;have hp:=hc.1;have hl:=hc.2;rw[e]at hp hl;have h1:dw g a x:=by rw[Zq]at hp;exact hp.left
   have h2:c∈g (br a x):=by rw[Zq]at hp;exact(hp.right (l:=x)).1
   have h3:dw g c z:=(hp.right (l:=x++c::y)).2;have h4:br a (x++c::y++c::z)=br c z:=by rw[Bc];rfl
   rw[h4]at hl;have h5:fG g a (x++c::z):=⟨dw.app h1 ⟨h2,h3⟩,by rw[Bc];exact hl⟩
   grind
theorem aaw{g:ae->List ae}(hg:∀n,bI (g n)){N:List ae}(hN:∀x y,y∈g x->y∈N)(hl:N.length<999){a:ae}{q:List ae}(hc:fG g a q)(hs:∀m,fG g a m->q.length<=m.length):∃l,np g a l/\l.length=q.length:=by
 obtain⟨d,hd⟩:=Nv g a;have hq:q.length<999:=by
  have BE:=(YQ.1 (Tn hc hs)).2;have jJ:∀(q:List ae) (a:ae),dw g a q->∀s∈q,s∈N:=fun q=>by
   induction q with
   |nil=>grind|cons b q ih=>
    intro a hp s h;rcases ZR.1 h with rfl|h
    .exact hN _ _ hp.1
    .exact ih b hp.2 s h
  have:=jh BE (jJ q a hc.1);omega
 have h1:d a<=q.length+1:=hd.l _ _ (hc.1.wK hc.2);have h2:=hd.r a (by omega);have h3:=h2.pos;obtain⟨l,lU⟩:=Ih hd (d a-1) a (by omega) (by omega);have hb:=jS.Qm hg hd lU (by omega) (by omega);exact⟨l,hb,Nat.le_antisymm (hb.s q hc) (hs l hb.c)⟩
theorem abn(g:ae->List ae)(hg:∀n,bI (g n)){N:List ae}(kH:bI N)(hN:∀x y,y∈g x->y∈N)(hl:N.length<999):sM g N (lJ g N):=by
 have ex:∃l,sM g N l:=by
  by_cases h0:∃a∈N,∃q,fG g a q
  .obtain⟨a1,oK,q1,AJ⟩:=h0;obtain⟨k,⟨a0,ha0,q0,AH,vK⟩,vM⟩:=Ej (p:=fun k=>∃a∈N,∃q,fG g a q/\q.length=k) q1.length ⟨a1,oK,q1,AJ,rfl⟩
   classical
   have Jy:(N.find? fun a=>decide (∃q,fG g a q/\q.length=k)).isSome:=by grind
   obtain⟨a,ha⟩:=X7.1 Jy;have O3:=XU ha;have hp:=XP ha;simp at hp;obtain⟨q,hq,AK⟩:=hp;obtain⟨l,hb,kJ⟩:=aaw hg hN hl hq (fun m hm=>by rw[AK];exact vM _ ⟨a,O3,m,hm,rfl⟩);refine⟨a::l,.inr ⟨a,l,rfl,O3,hb,fun b tA az m hm=>?_,fun b tA m hm=>by rw[kJ,AK];exact vM _ ⟨b,tA,m,hm,rfl⟩⟩⟩;have h1:=vM _ ⟨b,tA,m,hm,rfl⟩;rcases Xj h1 with h2|h2
   .rcases HZ kH ha b tA (by grind)with h3|h3
    .rw[h3,qy]at az;grind
    .rw[E2 h3]at az;grind
   grind
  .exact⟨[],.inl ⟨rfl,fun a ha q hq=>h0 ⟨a,ha,q,hq⟩⟩⟩
 obtain⟨l,hl⟩:=ex;rw[CR hl];grind
