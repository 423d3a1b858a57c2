/- The example of the changes: what Apply comes to, step by step. -/
import Derived.Test.YthdeaajdmdmfnaaGreatDoorAa
import Derived.Test.YthdeaajdmdmfnaaGreatDoorEd
import Derived.KernelRfl
import Derived.Test.YthdeaajdmdmfnaaGreatDoorCodeA
import Derived.Test.YthdeaajdmdmfnaaGreatDoorAh
import Derived.Test.YthdeaajdmdmfnaaGreatDoorPt
import Derived.Test.YthdeaajdmdmfnaaGreatDoorAt
import Derived.Test.YthdeaajdmdmfnaaGreatDoorHi
import Derived.Test.YthdeaajdmdmfnaaGreatDoorPc
import Derived.Test.YthdeaajdmdmfnaaGreatDoorAf
set_option linter.unusedSimpArgs false
set_option linter.unusedVariables false
set_option maxRecDepth 100000
set_option maxHeartbeats 4000000
namespace Go.Proofs.YthdeaajdmdmfnaaGreatDoor
open Go.Sx Go.Proofs Go.Tb Go.RowKit
abbrev yq:af:=⟨#[110]⟩
abbrev Bh:af:=⟨#[115,117,109]⟩
def Fc:aq:=⟨s0,s0,⟨0,[],s0⟩,⟨0,s0,s0,s0,⟨0,0,s0⟩,[],0,⟨0,0⟩,[]⟩,0⟩
def BB:bj:=⟨s0,s0,[],0⟩
def tK:bj:=⟨sT,sU,[⟨yq,⟨2,[],s0⟩⟩],0⟩
def aby:Ex:=⟨2,s0,yq,s0,⟨0,0,s0⟩,[],0,⟨0,0⟩,[]⟩
def fX(op:af)(a:Ex)(v:Int):aq:=⟨sA,sU,⟨2,[],s0⟩,⟨5,op,s0,sT,⟨0,0,s0⟩,[],0,⟨1,0⟩,[a,Ts]⟩,v⟩
def fP(v:Int):aq:=fX sN Ts v
def fQ(v:Int):aq:=fX Bh aby v
def xT:bh:=⟨1,tK,Fc,s0⟩
def xP:bh:=⟨2,BB,fP 0,s0⟩
def xQ:bh:=⟨2,BB,fQ 0,s0⟩
def xN(k:Int):bh:=⟨k,BB,Fc,sA⟩
def o6:au:=⟨[tK],[],[],[]⟩
def rR:au:=⟨[tK],[],[fP 1],[]⟩
def wY:au:=⟨[tK],[fP 1],[],[]⟩
def wZ:au:=⟨[tK],[fP 1],[fQ 2],[]⟩
def Cn:au:=⟨[tK],[fQ 2],[],[fP 1]⟩
def Mz:au:=⟨[tK],[],[fQ 1],[]⟩
def Ca(C:au):Int:=
 if C.tables.length>16∨C.features.length>32∨C.aD.length>32∨C.past.length>32 then 2
 else if cI none C.tables≠0 then cI none C.tables
 else if mz C≠0 then mz C else mJ C C.features
theorem aao{fs:List aq}(h:∀ f∈fs,f.body.bS=[])(n:af):deps fs n=[]:=by
 unfold deps
 split
 ·rename_i f hf
  have:f∈fs:=List.mem_of_find?_eq_some hf
  rw[aav (l:=[]) (by simp[cC]) (h f this)];rfl
 ·rfl
theorem WG{C:au}(h:∀ f∈C.features,f.body.bS=[]):nM C=Ca C:=by
 have hc:qm (deps C.features) (cR C.features)=[]:=MA (.inl ⟨rfl,fun a _ q hc=>by
  have:=hc.2
  rw[aao h]at this;cases this⟩)
 unfold nM Ca
 rw[hc]
 grind
def L7(c:au)(x:bh):au×Int:=
 if¬oJ x then(dY,1)else if(dw c x).2≠0 then(dY,(dw c x).2)else if Ca (dw c x).1≠0 then(dY,Ca (dw c x).1)else((dw c x).1,0)
theorem mD{c:au}{x:bh}{r:au×Int}(h:((dw c x).1.features.all fun f=>f.body.bS.isEmpty)=true:=by kernel_rfl)(hr:L7 c x=r:=by kernel_rfl):bR c x=r:=by
 have h:∀ f∈(dw c x).1.features,f.body.bS=[]:=fun f hf=>by simpa using Zz.1 h f hf
 rw[← hr]
 unfold bR L7
 rw[WG h]
theorem VH:bR dY xT=(o6,0):=mD
theorem VL:bR o6 xP=(rR,0):=mD
theorem VM:bR rR (xN 3)=(wY,0):=mD
theorem VN:bR wY xQ=(wZ,0):=mD
theorem VO:bR wZ (xN 3)=(Cn,0):=mD
theorem VP:bR Cn (xN 4)=(wZ,0):=mD
theorem VQ:bR dY xP=(dY,4):=mD
theorem VR:bR rR xP=(dY,121):=mD
theorem VS:bR wY (xN 4)=(dY,140):=mD
theorem VI:bR rR (xN 5)=(o6,0):=mD
theorem VJ:bR o6 xQ=(Mz,0):=mD
theorem VK:bR o6 xT=(dY,121):=mD
end Go.Proofs.YthdeaajdmdmfnaaGreatDoor
namespace Go.Proofs.YthdeaajdmdmfnaaGreatDoor
open _root_.Go.Proofs.Tryz
open Go.Sx Go.Proofs Go.RowKit
def Sy:List (Nat×Nat×AC×List RC):=[aG adi.r,aG adj.r,aG PJ.r,aG PK.r,aG ads.r,aG (d140.r func140 aaA),aG adt.r,aG adv.r,aG k17.r,aG PQ.r,aG adE.r,aG adG.r,aG adH.r,aG adI.r,aG PR.r,aG adV.r,aG adY.r,aG adZ.r,aG ad1.r,aG ad2.r,aG k24.r,aG aed.r,aG aeg.r,aG P0.r,aG k5.r,aG k47.r,aG k54.r,aG k55.r,aG PV.r,aG PW.r,aG PY.r,aG PD.r,aG PE.r,aG PF.r,aG Jr.r,aG k94.r,aG PS.r,aG PT.r,aG k46.r,aG k48.r,aG k49.r,aG k52.r,aG (d88.r func88 aaB),aG k95.r,aG k19.r,aG ad0.r,aG aef.r,aG PU.r,aG P3.r,aG adu.r,aG adW.r,aG k44.r,aG k50.r,aG k86.r,aG (d91.r func91 aaC),aG PO.r,aG P2.r,aG k99.r,aG PI.r,aG adp.r,aG adr.r,aG adU.r,aG Jq.r,aG PH.r,aG adq.r,aG PN.r,aG adT.r,aG PG.r,aG adX.r,aG aee.r,aG adF.r]
theorem aiU:wI prog Sy:= .cons _ (.cons _ (.cons _ (.cons _ (.cons _ (.cons _ (.cons _ (.cons _ (.cons _ (.cons _ (.cons _ (.cons _ (.cons _ (.cons _ (.cons _ (.cons _ (.cons _ (.cons _ (.cons _ (.cons _ (.cons _ (.cons _ (.cons _ (.cons _ (.cons _ (.cons _ (.cons _ (.cons _ (.cons _ (.cons _ (.cons _ (.cons _ (.cons _ (.cons _ (.cons _ (.cons _ (.cons _ (.cons _ (.cons _ (.cons _ (.cons _ (.cons _ (.cons _ (.cons _ (.cons _ (.cons _ (.cons _ (.cons _ (.cons _ (.cons _ (.cons _ (.cons _ (.cons _ (.cons _ (.cons _ (.cons _ (.cons _ (.cons _ (.cons _ (.cons _ (.cons _ (.cons _ (.cons _ (.cons _ (.cons _ (.cons _ (.cons _ (.cons _ (.cons _ (.cons _ (.cons _ (.nil)))))))))))))))))))))))))))))))))))))))))))))))))))))))))))))))))))))))
def e0:AV:= .agg [iv 0,sv s0,sv s0,sv s0,iv 0]
theorem eqE(x y:Operand)(ty:TypeId):jC prog (.binOp .eql 65 x y 65) ty [] [x,y] [e0,e0] (.v (.bool true)):=⟨fun σ bx M w0 w ρ hI hR=>by
 obtain⟨v1,cq,e1,h1,bY⟩:=Sx.RL.aX hR
 obtain⟨v2,e2,h2⟩:=Sx.RL.cJ bY
 subst e2
 simp only[Zv,YT,Z2,Zn]at e1
 have eqv:∀ {v:Value},R M e0 v→v= .agg #[.int .i64 0,.string s0,.string s0,.string s0,.int .i64 0]:=fun h=>by
  obtain⟨cs,rfl,q0⟩:=h.oG
  obtain⟨a1,r1,rfl,k1,q1⟩:=q0.aX
  obtain⟨a2,r2,rfl,k2,q2⟩:=q1.aX
  obtain⟨a3,r3,rfl,k3,q3⟩:=q2.aX
  obtain⟨a4,r4,rfl,k4,q4⟩:=q3.aX
  obtain⟨a5,rfl,k5⟩:=q4.cJ
  rw[k1.ay,k2.ay,k3.ay,k4.ay,k5.ay]
 have g1:=eqv h1
 have g2:=eqv h2
 subst g1 g2
 refine⟨.value (.bool true),w,M,.v (.bool true),_,_,?_,rfl,Sx.Mem.le.refl _,hI,.v _,rfl,rfl⟩
 simp only[execOp,e1.1,e1.2]
 kernel_rfl⟩
def JM(op:Op)(ty:TypeId)(ti:List TI)(args:List Operand)(ys:List AV):Option AV:=match Kx op ty ti args ys with
 |some r=>some r
 |none=>match op,ti with
  | .binOp .eql t x y u,[]=>bif Nat.beq t 65 && (Nat.beq u 65 && (kD args [x,y] && nK ys [e0,e0]))then some (.v (.bool true))else none
  |_,_=>none
theorem afr{op:Op}{ty:TypeId}{ti:List TI}{args:List Operand}{ys:List AV}{r:AV}(h:JM op ty ti args ys=some r):jC prog op ty ti args ys r∧bG r=some r:=by
 unfold JM at h
 split at h
 ·rename_i hs;cases h;exact aiD hs
 ·split at h
  ·rename_i t x y u _
   cases hb:(Nat.beq t 65 && (Nat.beq u 65 && (kD args [x,y] && nK ys [e0,e0])))with
   |false=>rw[hb]at h;cases h
   |true=>
    rw[hb]at h
    cases h
    simp only[Z8]at hb
    obtain⟨h1,h2,h3,h4⟩:=hb
    have h1:=Z0 h1
    have h2:=Z0 h2
    subst h1 h2
    rw[A1 h3]
    exact⟨⟨fun σ bx M w0 w ρ hI hR=>(eqE x y ty).sp σ bx M w0 w ρ hI ((rP h4).sound hR)⟩,rfl⟩
  ·cases h
def tX(l:List (FuncId×List AV×AV)):XT:=⟨Sx.look Sy,fun _ _=>0,JY l,JM,fun op _ ti args ys d n σ=>JD op ti args ys d n σ,fun _=>none,fun f=>([102,104,171,172,139,140,141,145,17,217,188,192,195,196,22,237,240,241,243,246,24,300,303,74,5,47,54,55,66,69,71,123,125,13,169,94,23,38,46,48,49,52,88,95,19,242,302,39,83,144,238,44,50,86,91,21,82,99,168,136,138,231,122,134,137,20,230,133,239,301,190]:List Nat).elem f,fun f=>([140,192,237,240,241,243,300,303,47,46,242,302,238,44,138,137,239,301]:List Nat).elem f⟩
theorem aiL(l:List (FuncId×List AV×AV)):(tX l).OK prog:=⟨fun _ _ h=>(nomatch h),fun _ _ h=>(nomatch h),fun _ _ _ _ _ _ h=>afr h,fun f h=>by
 have ha:([102,104,171,172,139,140,141,145,17,217,188,192,195,196,22,237,240,241,243,246,24,300,303,74,5,47,54,55,66,69,71,123,125,13,169,94,23,38,46,48,49,52,88,95,19,242,302,39,83,144,238,44,50,86,91,21,82,99,168,136,138,231,122,134,137,20,230,133,239,301,190]:List Nat).all (gR prog)=true:=by kernel_rfl
 exact Zz.1 ha f (List.mem_of_elem_eq_true h)⟩
theorem tB(l:List (FuncId×List AV×AV))(hl:∀ e∈l,dW prog e.1 e.2.1 e.2.2)(k:Nat){f:FuncId}{ys:List AV}{r:AV}(h:oY (dV (tX l) k).call f ys 0=some r):Sx.Pure prog f ys r:=
 Pure.exec (aiL l) aiU.look (fun _ _ _ _ _ _ _ _ _ _ _ h a b=>aeR h a b) (afQ rfl hl) k h
theorem Ww(l:List UInt8):Lib.bytesOf (l.map fun b=>(b.toNat:Int))=l:=by
 unfold Lib.bytesOf
 rw[Yg]
 conv=>rhs;rw[← List.map_id l]
 exact List.map_congr_left fun b _=>by simp
theorem Jg(l:List UInt8)(hl:l≠[])(c:UInt8):Sx.Pure prog 232 [.sl true 1 (l.map dD),.v (.int .u8 c.toNat)] (iv (Lib.indexByte l c)):=by
 refine Pure.vV fun M w0 w σ cs hI hR=> ?_
 obtain⟨v1,vs,rfl,h1,h2⟩:=hR.aX
 obtain⟨v2,rfl,h3⟩:=h2.cJ
 obtain rfl:=h3.ay
 rcases h1.nj with⟨a,_,h0,_⟩|⟨b,off,cap,cs,rfl,hr,h4,h5⟩
 ·exact absurd (Xz.1 h0) hl
 have hlen:(l.map dD).length=l.length:=ZW _
 refine(Tryz.bytes_IndexByte b off _ cap (l.map fun b=>(b.toNat:Int)) c.toNat w (by simp) (fun i hi=> ?_)).mono fun e w' ⟨he,hw⟩=>⟨⟨_,he,?_⟩,by rw[hw];exact Below.refl _ _⟩
 ·have cD:i<l.length:=by omega
  have h6:=hI.bL _ _ _ (hr.mem i (by omega))
  have h7:=hr.rel i hi 0 (by simp[dD])
  simp only[Zu,dD,Yx,Yb,Ym]at h7
  rw[h6,h7.ay]
  simp[Z3,cD]
 ·rw[Ww]
  have:((c.toNat:Int).toNat.toUInt8)=c:=by simp
  rw[this];exact .v _
theorem dW.of{f:FuncId}{ys:List AV}{r r':AV}(h:Sx.Pure prog f ys r)(e:r=r':=by kernel_rfl)(hw:bG r'=some r':=by kernel_rfl):dW prog f ys r':=⟨e ▸ h,hw⟩
def vw:List (FuncId×List AV×AV):=[(232,[.sl true 1 ([2,3,4].map dD),.v (.int .u8 1)],iv (-1)),
 (232,[.sl true 1 ([2,3,4].map dD),.v (.int .u8 2)],iv (0)),
 (232,[.sl true 1 ([2,3,4].map dD),.v (.int .u8 7)],iv (-1)),
 (146,[.sl true 1 [[sv ⟨#[32,110,58,32,105,110,116]⟩]],sv ⟨#[44]⟩],sv ⟨#[32,110,58,32,105,110,116]⟩),
 (146,[.sl true 1 [[sv ⟨#[105,110,116]⟩],[sv ⟨#[]⟩]],sv ⟨#[]⟩],sv ⟨#[105,110,116]⟩),
 (146,[.sl true 1 [[sv ⟨#[116,97,98,108,101,32,99,108,105,99,107,115,32,111,102,32,117,115,101,114,32,123,32,110,58,32,105,110,116,32,125]⟩],[sv ⟨#[59]⟩]],sv ⟨#[]⟩],sv ⟨#[116,97,98,108,101,32,99,108,105,99,107,115,32,111,102,32,117,115,101,114,32,123,32,110,58,32,105,110,116,32,125,59]⟩),
 (146,[.sl true 1 [[sv ⟨#[32]⟩],[sv ⟨#[110]⟩],[sv ⟨#[58,32]⟩],[sv ⟨#[105,110,116]⟩]],sv ⟨#[]⟩],sv ⟨#[32,110,58,32,105,110,116]⟩),
 (146,[.sl true 1 [[sv ⟨#[116,97,98,108,101,32]⟩],[sv ⟨#[99,108,105,99,107,115]⟩],[sv ⟨#[32,111,102,32]⟩],[sv ⟨#[117,115,101,114]⟩],[sv ⟨#[32,123]⟩],[sv ⟨#[32,110,58,32,105,110,116]⟩],[sv ⟨#[32,125]⟩]],sv ⟨#[]⟩],sv ⟨#[116,97,98,108,101,32,99,108,105,99,107,115,32,111,102,32,117,115,101,114,32,123,32,110,58,32,105,110,116,32,125]⟩),
 (214,[sv ⟨#[99,108,105,99,107,115]⟩,sv ⟨#[32]⟩],.v (.bool false)),
 (214,[sv ⟨#[110]⟩,sv ⟨#[32]⟩],.v (.bool false)),
 (214,[sv ⟨#[117,115,101,114]⟩,sv ⟨#[32]⟩],.v (.bool false)),
 (214,[sv ⟨#[32,116,97,98,108,101,32,102,101,97,116,117,114,101,32,111,102,32,107,101,101,112,32,98,111,111,108,32,116,101,120,116,32,107,101,121,32,105,110,116,32,100,101,99,32,105,102,32,116,104,101,110,32,101,108,115,101,32,100,101,102,97,117,108,116,32,111,114,32,97,110,100,32,110,111,116,32,116,114,117,101,32,102,97,108,115,101,32,110,117,108,108,32,99,111,117,110,116,32,115,117,109,32,109,101,97,110,32,109,105,110,32,109,97,120,32,102,105,114,115,116,32,108,97,115,116,32,100,105,115,116,105,110,99,116,32,113,117,97,110,116,105,108,101,32,100,101,99,97,121,32,97,108,108,32,115,108,105,100,105,110,103,32,116,117,109,98,108,105,110,103,32,115,101,115,115,105,111,110,32,119,104,101,114,101,32]⟩,sv ⟨#[32,99,108,105,99,107,115,32]⟩],.v (.bool false)),
 (214,[sv ⟨#[32,116,97,98,108,101,32,102,101,97,116,117,114,101,32,111,102,32,107,101,101,112,32,98,111,111,108,32,116,101,120,116,32,107,101,121,32,105,110,116,32,100,101,99,32,105,102,32,116,104,101,110,32,101,108,115,101,32,100,101,102,97,117,108,116,32,111,114,32,97,110,100,32,110,111,116,32,116,114,117,101,32,102,97,108,115,101,32,110,117,108,108,32,99,111,117,110,116,32,115,117,109,32,109,101,97,110,32,109,105,110,32,109,97,120,32,102,105,114,115,116,32,108,97,115,116,32,100,105,115,116,105,110,99,116,32,113,117,97,110,116,105,108,101,32,100,101,99,97,121,32,97,108,108,32,115,108,105,100,105,110,103,32,116,117,109,98,108,105,110,103,32,115,101,115,115,105,111,110,32,119,104,101,114,101,32]⟩,sv ⟨#[32,110,32]⟩],.v (.bool false)),
 (214,[sv ⟨#[32,116,97,98,108,101,32,102,101,97,116,117,114,101,32,111,102,32,107,101,101,112,32,98,111,111,108,32,116,101,120,116,32,107,101,121,32,105,110,116,32,100,101,99,32,105,102,32,116,104,101,110,32,101,108,115,101,32,100,101,102,97,117,108,116,32,111,114,32,97,110,100,32,110,111,116,32,116,114,117,101,32,102,97,108,115,101,32,110,117,108,108,32,99,111,117,110,116,32,115,117,109,32,109,101,97,110,32,109,105,110,32,109,97,120,32,102,105,114,115,116,32,108,97,115,116,32,100,105,115,116,105,110,99,116,32,113,117,97,110,116,105,108,101,32,100,101,99,97,121,32,97,108,108,32,115,108,105,100,105,110,103,32,116,117,109,98,108,105,110,103,32,115,101,115,115,105,111,110,32,119,104,101,114,101,32]⟩,sv ⟨#[32,117,115,101,114,32]⟩],.v (.bool false))]
theorem AQ:∀ e∈vw,dW prog e.1 e.2.1 e.2.2:=by
 unfold vw
 simp only[List.forall_mem_cons]
 exact⟨dW.of (Jg [2,3,4] (by decide) 1),
  dW.of (Jg [2,3,4] (by decide) 2),
  dW.of (Jg [2,3,4] (by decide) 7),
  dW.of (AL [⟨#[32,110,58,32,105,110,116]⟩] ⟨#[44]⟩ true (by decide) (by decide)),
  dW.of (AL [⟨#[105,110,116]⟩,⟨#[]⟩] ⟨#[]⟩ true (by decide) (by decide)),
  dW.of (AL [⟨#[116,97,98,108,101,32,99,108,105,99,107,115,32,111,102,32,117,115,101,114,32,123,32,110,58,32,105,110,116,32,125]⟩,⟨#[59]⟩] ⟨#[]⟩ true (by decide) (by decide)),
  dW.of (AL [⟨#[32]⟩,⟨#[110]⟩,⟨#[58,32]⟩,⟨#[105,110,116]⟩] ⟨#[]⟩ true (by decide) (by decide)),
  dW.of (AL [⟨#[116,97,98,108,101,32]⟩,⟨#[99,108,105,99,107,115]⟩,⟨#[32,111,102,32]⟩,⟨#[117,115,101,114]⟩,⟨#[32,123]⟩,⟨#[32,110,58,32,105,110,116]⟩,⟨#[32,125]⟩] ⟨#[]⟩ true (by decide) (by decide)),
  dW.of (Cm ⟨#[99,108,105,99,107,115]⟩ 32),
  dW.of (Cm ⟨#[110]⟩ 32),
  dW.of (Cm ⟨#[117,115,101,114]⟩ 32),
  dW.of (Ck ⟨#[32,116,97,98,108,101,32,102,101,97,116,117,114,101,32,111,102,32,107,101,101,112,32,98,111,111,108,32,116,101,120,116,32,107,101,121,32,105,110,116,32,100,101,99,32,105,102,32,116,104,101,110,32,101,108,115,101,32,100,101,102,97,117,108,116,32,111,114,32,97,110,100,32,110,111,116,32,116,114,117,101,32,102,97,108,115,101,32,110,117,108,108,32,99,111,117,110,116,32,115,117,109,32,109,101,97,110,32,109,105,110,32,109,97,120,32,102,105,114,115,116,32,108,97,115,116,32,100,105,115,116,105,110,99,116,32,113,117,97,110,116,105,108,101,32,100,101,99,97,121,32,97,108,108,32,115,108,105,100,105,110,103,32,116,117,109,98,108,105,110,103,32,115,101,115,115,105,111,110,32,119,104,101,114,101,32]⟩ ⟨#[32,99,108,105,99,107,115,32]⟩ (by decide)),
  dW.of (Ck ⟨#[32,116,97,98,108,101,32,102,101,97,116,117,114,101,32,111,102,32,107,101,101,112,32,98,111,111,108,32,116,101,120,116,32,107,101,121,32,105,110,116,32,100,101,99,32,105,102,32,116,104,101,110,32,101,108,115,101,32,100,101,102,97,117,108,116,32,111,114,32,97,110,100,32,110,111,116,32,116,114,117,101,32,102,97,108,115,101,32,110,117,108,108,32,99,111,117,110,116,32,115,117,109,32,109,101,97,110,32,109,105,110,32,109,97,120,32,102,105,114,115,116,32,108,97,115,116,32,100,105,115,116,105,110,99,116,32,113,117,97,110,116,105,108,101,32,100,101,99,97,121,32,97,108,108,32,115,108,105,100,105,110,103,32,116,117,109,98,108,105,110,103,32,115,101,115,115,105,111,110,32,119,104,101,114,101,32]⟩ ⟨#[32,110,32]⟩ (by decide)),
  dW.of (Ck ⟨#[32,116,97,98,108,101,32,102,101,97,116,117,114,101,32,111,102,32,107,101,101,112,32,98,111,111,108,32,116,101,120,116,32,107,101,121,32,105,110,116,32,100,101,99,32,105,102,32,116,104,101,110,32,101,108,115,101,32,100,101,102,97,117,108,116,32,111,114,32,97,110,100,32,110,111,116,32,116,114,117,101,32,102,97,108,115,101,32,110,117,108,108,32,99,111,117,110,116,32,115,117,109,32,109,101,97,110,32,109,105,110,32,109,97,120,32,102,105,114,115,116,32,108,97,115,116,32,100,105,115,116,105,110,99,116,32,113,117,97,110,116,105,108,101,32,100,101,99,97,121,32,97,108,108,32,115,108,105,100,105,110,103,32,116,117,109,98,108,105,110,103,32,115,101,115,115,105,111,110,32,119,104,101,114,101,32]⟩ ⟨#[32,117,115,101,114,32]⟩ (by decide)),fun _ h=>nomatch h⟩
def EN:af:=⟨#[116,97,98,108,101,32,99,108,105,99,107,115,32,111,102,32,117,115,101,114,32,123,32,110,58,32,105,110,116,32,125,59]⟩
theorem aiN:Sx.Pure prog 102 [.agg tK.cells] (.bo [sv EN,iv 0]):=tB vw AQ 200 (by kernel_rfl)
end Go.Proofs.YthdeaajdmdmfnaaGreatDoor
namespace Go.Proofs.YthdeaajdmdmfnaaGreatDoor
open _root_.Go.Proofs.Tryz
open Go.Sx Go.Proofs Go.Tb Go.RowKit
theorem aiW:Sx.Pure prog 53 [.agg xT.cells] (.bo [sv EN,.v (.bool true)]):=by
 have hP:=Rj xT
 rw[YJ (by decide)]at hP
 refine k53.p fun σ=> ?_
 repeat'((fail_if_success (show WK _ _ _ _ (.eA _ _) _ _ _));(first|exact .nil|refine .k0 ?_|refine .k1 ?_|refine .k2 ?_|refine .r1 ?_ ?_|(refine .m1 ?_ ?_;intro b)|fail))
 refine FE 1 4 5 (bb:=true) (E:= .agg [kQ 64,kQ 65]) (.inr ⟨rfl,rfl,rfl⟩) (k:=1) rfl rfl rfl rfl rfl rfl rfl rfl fun b9 b6=> ?_
 repeat'(first|exact .nil|refine .k0 ?_|refine .k1 ?_|refine .k2 ?_|refine .r1 ?_ ?_|fail)
 all_goals(try simp only[BL]at *)
 refine wK (by rfl) rfl rfl (fun _=>hP) ?_ ?_
 ·exact .cons (fun _=>rfl) (.cons (fun _=>rfl) .nil)
 repeat'(first|exact .nil|refine .k0 ?_|refine .k1 ?_|refine .k2 ?_|refine .k6 ?_|refine .k7 ?_|refine .k9 ?_|(refine .cd ?_ ?_<;>(intro hc;first|exact kt hc (by assumption)|skip))|refine .r1 ?_ ?_|refine .an rfl (by intro aI;exact aiN) ?_ ?_|fail)
 all_goals(try simp only[BL]at *)
 ·cases hc
 ·exact Zw
 ·exact absurd rfl (by assumption)
theorem afL:Sx.Pure prog 18 [sv sN] (.agg xP.cells):=by
 have aE:¬sN=⟨#[115,117,109]⟩:=by decide
 refine PL.p fun σ=> ?_
 repeat'(first|exact .nil|refine .k0 ?_|refine .k1 ?_|refine .k2 ?_|refine .k7 ?_|refine .k9 ?_|(refine .cd ?_ ?_<;>(intro hc;skip))|refine .r1 ?_ ?_|(refine .l1 ?_;intro b)|refine .an rfl (by intro aI;(refine SE.wk ?_;(repeat' first|exact .refl _|fail);done)) ?_ ?_|refine .r8 ?_ ?_|fail)
 all_goals(try simp only[BL]at *)
 ·show 2≤1000000;decide
 ·exact absurd hc aE
 ·exact absurd hc aE
 ·exact Zw
def GH:List AV:=[iv 2,sv s0,sv yq,sv s0,iv 0,iv 0,sv s0,eB,iv 0,iv 0,iv 0,eB]
def F4:List AV:=[iv 2,sv s0,sv s0,eB,iv 0,sv sA,sv sU,iv 2,eB,sv s0,iv 5,sv Bh,sv s0,sv sT,iv 0,iv 0,sv s0,eB,iv 0,iv 1,iv 0,eB,iv 0,sv s0]
theorem afN(σ:Store):Sx.Spec prog 18 [sv Bh] σ fun r σ'=>∃ b,r= .ret (.agg (F4.set 21 (.ms 8 b 0 2 2)))∧Sx.Sub ((8,b,.cells (GH++lA.row))::σ) σ':=by
 refine PL.sc (fun d=>bif Nat.beq d 8 then 2 else 0) ?_
 repeat'(first|exact .nil|refine .k0 ?_|refine .k1 ?_|refine .k2 ?_|refine .r1 ?_ ?_|(refine .l1 ?_;intro b)|refine .an rfl (by intro aI;(refine SE.wk ?_;(repeat' first|exact .refl _|fail);done)) ?_ ?_|fail)
 all_goals(try simp only[BL]at *)
 refine Us rfl (by rfl) (by rfl) (by show 2≤1000000;decide) .nil fun b8=> ?_
 repeat'(first|exact .nil|refine .k0 ?_|refine .k1 ?_|refine .k2 ?_|refine .k7 ?_|refine .k9 ?_|(refine .cd ?_ ?_<;>(intro hc;skip))|refine .r1 ?_ ?_|(refine .l1 ?_;intro b)|refine .r8 ?_ ?_|fail)
 all_goals(try simp only[BL]at *)
 ·exact⟨Int.le_refl 0,by decide⟩
 ·exact⟨b8,rfl,.cons (.same (.cons (.refl _)))⟩
 ·exact absurd trivial hc
theorem afM:Sx.Pure prog 18 [sv Bh] (.agg xQ.cells):=by
 refine⟨fun σ M w0 w cs hI hR=> ?_⟩
 refine(afN σ M w0 w cs hI hR).mono fun e w' ⟨M',r,σ',hM,bp,hr,b,e1,e2⟩=> ?_
 subst e1
 obtain⟨M2,nP,fY,hs⟩:=CJ (K:=12) (c:=2) (rows:=[GH,lA.row]) (bp.sub e2) (fun i h=>by match i,h with|0,_=>rfl|1,_=>rfl) rfl (ZX _) (by unfold maxLen;decide)
 refine⟨M2,.ret (.agg xQ.cells),σ,hM.trans nP,fY,?_,rfl,rfl⟩
 cases e with
 |returned v=>
  have hr:R M' (.agg (F4.set 21 (.ms 8 b 0 2 2))) v:=hr
  obtain⟨cs,rfl,h⟩:=hr.oG
  have h2:RL M2 (F4.set 21 (.sl true 12 [GH,lA.row])) cs:=⟨by rw[← h.1,Xv,Xv],fun i a c=>by
   have h3:=h.2 i (by rw[Xv]at a ⊢;exact a) c
   rw[List.getElem_set]at h3 ⊢
   split at h3
   ·rename_i h4
    rw[ZV h4,h3.pO];exact hs
   ·rename_i h4
    rw[Z7 h4];exact h3.mono nP⟩
  exact R.oF ((rP (by kernel_rfl)).sound h2)
 |_=>exact hr.elim
end Go.Proofs.YthdeaajdmdmfnaaGreatDoor
namespace Go.Proofs.YthdeaajdmdmfnaaGreatDoor
open _root_.Go.Proofs.Tryz
open Go.Sx Go.Proofs Go.RowKit
abbrev w(n:Int):AV:= .v (.int .u8 n)
def Mv:AV:= .agg [w 0,w 0,w 0,w 0,w 0,w 0,w 0,w 0,w 0,w 1,w 1,w 0,w 0,w 1,w 0,w 0,w 0,w 0,w 0,w 0,w 0,w 0,w 0,w 0,w 0,w 0,w 0,w 0,w 0,w 0,w 0,w 0,w 1,w 8,w 5,w 6,w 0,w 0,w 0,w 0,w 7,w 7,w 7,w 7,w 7,w 7,w 0,w 7,w 3,w 3,w 3,w 3,w 3,w 3,w 3,w 3,w 3,w 3,w 7,w 7,w 7,w 7,w 0,w 0,w 7,w 0,w 0,w 0,w 0,w 0,w 0,w 0,w 0,w 0,w 0,w 0,w 0,w 0,w 0,w 0,w 0,w 0,w 0,w 0,w 0,w 0,w 0,w 0,w 0,w 0,w 0,w 7,w 0,w 7,w 7,w 4,w 0,w 2,w 2,w 2,w 2,w 2,w 2,w 2,w 2,w 2,w 2,w 2,w 2,w 2,w 2,w 2,w 2,w 2,w 2,w 2,w 2,w 2,w 2,w 2,w 2,w 2,w 2,w 7,w 0,w 7,w 0,w 0,w 0,w 0,w 0,w 0,w 0,w 0,w 0,w 0,w 0,w 0,w 0,w 0,w 0,w 0,w 0,w 0,w 0,w 0,w 0,w 0,w 0,w 0,w 0,w 0,w 0,w 0,w 0,w 0,w 0,w 0,w 0,w 0,w 0,w 0,w 0,w 0,w 0,w 0,w 0,w 0,w 0,w 0,w 0,w 0,w 0,w 0,w 0,w 0,w 0,w 0,w 0,w 0,w 0,w 0,w 0,w 0,w 0,w 0,w 0,w 0,w 0,w 0,w 0,w 0,w 0,w 0,w 0,w 0,w 0,w 0,w 0,w 0,w 0,w 0,w 0,w 0,w 0,w 0,w 0,w 0,w 0,w 0,w 0,w 0,w 0,w 0,w 0,w 0,w 0,w 0,w 0,w 0,w 0,w 0,w 0,w 0,w 0,w 0,w 0,w 0,w 0,w 0,w 0,w 0,w 0,w 0,w 0,w 0,w 0,w 0,w 0,w 0,w 0,w 0,w 0,w 0,w 0,w 0,w 0,w 0,w 0,w 0,w 0,w 0,w 0,w 0,w 0,w 0]
theorem WV:Sx.Pure prog 188 [] Mv:=tB vw AQ 200 (by kernel_rfl)
theorem ui{l:List (FuncId×List AV×AV)}{f:FuncId}{ys:List AV}{r:AV}(hl:∀ e∈l,dW prog e.1 e.2.1 e.2.2)(h:Sx.Pure prog f ys r)(hw:bG r=some r:=by kernel_rfl):∀ e∈(f,ys,r)::l,dW prog e.1 e.2.1 e.2.2:=by
 simp only[List.forall_mem_cons]
 exact⟨⟨h,hw⟩,hl⟩
def Qg:List (FuncId×List AV×AV):=(188,[],Mv)::vw
theorem aeB:∀ e∈Qg,dW prog e.1 e.2.1 e.2.2:=ui AQ WV
def Ez:AV:= .sl true 1 (EN.data.toList.map dD)
def tok14:AV:= .bo [.sl true 3 [[iv 1,sv ⟨#[116,97,98,108,101]⟩,iv 0],[iv 1,sv sT,iv 6],[iv 1,sv ⟨#[111,102]⟩,iv 13],[iv 1,sv sU,iv 16],[iv 5,sv ⟨#[123]⟩,iv 21],[iv 1,sv yq,iv 23],[iv 5,sv ⟨#[58]⟩,iv 24],[iv 1,sv ⟨#[105,110,116]⟩,iv 26],[iv 5,sv ⟨#[125]⟩,iv 30],[iv 5,sv ⟨#[59]⟩,iv 31],[iv 6,sv s0,iv 32]],eB,iv 0]
theorem aiY:Sx.Pure prog 139 [Ez] tok14:=tB Qg aeB 200 (by kernel_rfl)
def Qh:List (FuncId×List AV×AV):=(139,[Ez],tok14)::vw
theorem aeC:∀ e∈Qh,dW prog e.1 e.2.1 e.2.2:=ui AQ aiY
def QD:AV:= .bo [.agg [.sl true 4 [[sv sT,sv sU,.sl true 4 [[sv yq,iv 2,eB,sv s0]],iv 0]],eB],eB,iv 0]
theorem aeZ:Sx.Pure prog 94 [Ez] QD:=tB Qh aeC 200 (by kernel_rfl)
def DL:List (FuncId×List AV×AV):=(94,[Ez],QD)::(53,[.agg xT.cells],.bo [sv EN,.v (.bool true)])::vw
theorem Ju:∀ e∈DL,dW prog e.1 e.2.1 e.2.2:=ui (ui AQ aiW) aeZ
def zt(no tick kind:Int)(x:List AV):AV:= .agg ([iv no,iv tick,iv kind,sv s0,iv 0,iv 0,iv 0,sv s0,sv s0,iv 0,eB,iv 0,sv s0,sv s0,sv s0,iv 0]++x)
def Wv:List AV→List (List AV):=List.map fun x=>[x]
def B6:AV:= .sl true 1 (Wv [w 2,w 4,w 6,w 2,w 0,w 32,w 116,w 97,w 98,w 108,w 101,w 32,w 99,w 108,w 105,w 99,w 107,w 115,w 32,w 111,w 102,w 32,w 117,w 115,w 101,w 114,w 32,w 123,w 32,w 110,w 58,w 32,w 105,w 110,w 116,w 32,w 125,w 59])
theorem VU:Sx.Pure prog 23 [eB,zt 1 2 3 xT.cells] B6:=tB DL Ju 200 (by kernel_rfl)
theorem VW:Sx.Pure prog 23 [eB,zt 0 0 4 (iv 0::BB.cells++Fc.cells++[sv s0])] eB:=tB DL Ju 200 (by kernel_rfl)
def RP:AV:= .bo [zt 1 2 3 (iv 1::[sv sT,sv sU,.sl true 4 [[sv yq,iv 2,eB,sv s0]],iv 0]++[sv s0,sv s0,iv 0,eB,sv s0,iv 0,sv s0,sv s0,sv s0,iv 0,iv 0,sv s0,eB,iv 0,iv 0,iv 0,eB,iv 0]++[sv s0]),iv 38,iv 0]
theorem af8:Sx.Pure prog 22 [B6,iv 0] RP:=tB DL Ju 200 (by kernel_rfl)
def Cu(f:aq):Bool:=decide (f.body.size≤1000) && (decide (f.name.size≤2 ^ 60) && decide (f.body.wt≤2 ^ 60))
def Mp(c:au):Bool:=decide (c.tables.length≤10) && (decide (c.features.length≤10) && (decide (c.aD.length≤10) && (decide (c.past.length≤10) && c.all.all Cu)))
theorem Nc{f:aq}(h:Cu f=true):FB f:=by
 unfold Cu at h
 simp only[Z8,ZR]at h
 exact⟨h.1,h.2.1,h.2.2⟩
theorem np{c:au}{x:bh}{r:au×Int}(h:bR c x=r)(hc:Mp c=true:=by kernel_rfl)(hx:Cu x.feature=true:=by kernel_rfl)(hw:bG (cS r)=some (cS r):=by kernel_rfl):dW prog 9 [.agg c.cells,.agg x.cells] (cS r):=by
 unfold Mp at hc
 simp only[Z8,ZR]at hc
 obtain⟨h1,h2,h3,h4,h5⟩:=hc
 exact⟨h ▸ FN KJ JO c x 10 (by decide) ⟨h1,h2,h3,h4,fun f hf=>Nc (Zz.1 h5 f hf)⟩ (Nc hx),hw⟩
def Gi:List (FuncId×List AV×AV):=[(18,[sv sN],.agg xP.cells),(18,[sv Bh],.agg xQ.cells),
 (9,[.agg dY.cells,.agg xT.cells],cS (o6,0)),
 (9,[.agg o6.cells,.agg xP.cells],cS (rR,0)),
 (9,[.agg rR.cells,.agg (xN 3).cells],cS (wY,0)),
 (9,[.agg wY.cells,.agg xQ.cells],cS (wZ,0)),
 (9,[.agg wZ.cells,.agg (xN 3).cells],cS (Cn,0)),
 (9,[.agg Cn.cells,.agg (xN 4).cells],cS (wZ,0)),
 (9,[.agg dY.cells,.agg xP.cells],cS (dY,4)),
 (9,[.agg rR.cells,.agg xP.cells],cS (dY,121)),
 (9,[.agg wY.cells,.agg (xN 4).cells],cS (dY,140)),
 (9,[.agg rR.cells,.agg (xN 5).cells],cS (o6,0)),
 (9,[.agg o6.cells,.agg xQ.cells],cS (Mz,0)),
 (9,[.agg o6.cells,.agg xT.cells],cS (dY,121))]
theorem aaR:∀ e∈Gi,dW prog e.1 e.2.1 e.2.2:=by
 unfold Gi
 simp only[List.forall_mem_cons]
 exact⟨dW.of afL,dW.of afM,np VH,np VL,np VM,np VN,np VO,np VP,np VQ,np VR,np VS,np VI,np VJ,np VK,fun _ h=>nomatch h⟩
def MY:List (FuncId×List AV×AV):=(23,[eB,zt 1 2 3 xT.cells],B6)::(23,[eB,zt 0 0 4 (iv 0::BB.cells++Fc.cells++[sv s0])],eB)::(22,[B6,iv 0],RP)::Gi
theorem aaS:∀ e∈MY,dW prog e.1 e.2.1 e.2.2:=ui (ui (ui aaR af8) VW) VU
theorem aaU:Sx.Pure prog 5 [] (.v (.bool true)):=tB MY aaS 200 (by kernel_rfl)
end Go.Proofs.YthdeaajdmdmfnaaGreatDoor
