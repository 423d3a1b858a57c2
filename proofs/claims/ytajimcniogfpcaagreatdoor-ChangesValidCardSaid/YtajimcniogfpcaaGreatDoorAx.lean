/- The example of the changes: what Apply comes to, step by step. -/
import Derived.Test.YtajimcniogfpcaaGreatDoorAa
import Derived.Test.YtajimcniogfpcaaGreatDoorEd
import Derived.KernelRfl
import Derived.Test.YtajimcniogfpcaaGreatDoorCodeA
import Derived.Test.YtajimcniogfpcaaGreatDoorAh
import Derived.Test.YtajimcniogfpcaaGreatDoorPt
import Derived.Test.YtajimcniogfpcaaGreatDoorAt
import Derived.Test.YtajimcniogfpcaaGreatDoorHi
import Derived.Test.YtajimcniogfpcaaGreatDoorPc
import Derived.Test.YtajimcniogfpcaaGreatDoorAf
set_option linter.unusedSimpArgs false
set_option linter.unusedVariables false
set_option maxRecDepth 100000
set_option maxHeartbeats 4000000
namespace Go.Proofs.YtajimcniogfpcaaGreatDoor
open Go.Sx Go.Proofs Go.Tb Go.RowKit
abbrev Ay:ae:=⟨#[110]⟩
abbrev C7:ae:=⟨#[115,117,109]⟩
def Hg:aj:=⟨s0,s0,⟨0,[],s0⟩,⟨0,s0,s0,s0,⟨0,0,s0⟩,[],0,⟨0,0⟩,[]⟩,0⟩
def DB:aI:=⟨s0,s0,[],0⟩
def tK:aI:=⟨sT,sU,[⟨Ay,⟨2,[],s0⟩⟩],0⟩
def ad9:Ex:=⟨2,s0,Ay,s0,⟨0,0,s0⟩,[],0,⟨0,0⟩,[]⟩
def fX(op:ae)(a:Ex)(v:Int):aj:=⟨sA,sU,⟨2,[],s0⟩,⟨5,op,s0,sT,⟨0,0,s0⟩,[],0,⟨1,0⟩,[a,He]⟩,v⟩
def fP(v:Int):aj:=fX sN He v
def fQ(v:Int):aj:=fX C7 ad9 v
def xT:dE:=⟨1,tK,Hg,s0⟩
def xP:dE:=⟨2,DB,fP 0,s0⟩
def xQ:dE:=⟨2,DB,fQ 0,s0⟩
def xN(k:Int):dE:=⟨k,DB,Hg,sA⟩
def qc:az:=⟨[tK],[],[],[]⟩
def tW:az:=⟨[tK],[],[fP 1],[]⟩
def yY:az:=⟨[tK],[fP 1],[],[]⟩
def yZ:az:=⟨[tK],[fP 1],[fQ 2],[]⟩
def D7:az:=⟨[tK],[fQ 2],[],[fP 1]⟩
def Ox:az:=⟨[tK],[],[fQ 1],[]⟩
def DY(C:az):Int:=
 if C.tables.length>16∨C.features.length>32∨C.aT.length>32∨C.past.length>32 then 2
 else if bK none C.tables≠0 then bK none C.tables
 else if kP C≠0 then kP C else lN C C.features
theorem acZ{fs:List aj}(h:∀ f∈fs,f.body.aW=[])(n:ae):deps fs n=[]:=by
 unfold deps
 split
 ·rename_i f hf
  have:f∈fs:=XK hf
  rw[OW (l:=[]) (by simp[bl]) (h f this)];rfl
 ·rfl
theorem ace{C:az}(h:∀ f∈C.features,f.body.aW=[]):jw C=DY C:=by
 have hc:iF (deps C.features) (aL C.features)=[]:=wJ (.inl ⟨rfl,fun a _ q hc=>by
  have:=hc.2
  rw[acZ h]at this;cases this⟩)
 unfold jw DY
 rw[hc]
 grind
def N2(c:az)(x:dE):az×Int:=
 if¬qJ x then(gh,1)else if(dJ c x).2≠0 then(gh,(dJ c x).2)else if DY (dJ c x).1≠0 then(gh,DY (dJ c x).1)else((dJ c x).1,0)
theorem nD{c:az}{x:dE}{r:az×Int}(h:((dJ c x).1.features.all fun f=>f.body.aW.isEmpty)=true:=by kernel_rfl)(hr:N2 c x=r:=by kernel_rfl):gg c x=r:=by
 have h:∀ f∈(dJ c x).1.features,f.body.aW=[]:=fun f hf=>by simpa using ZB.1 h f hf
 rw[← hr]
 unfold gg N2
 rw[ace h]
theorem aX:gg gh xT=(qc,0):=nD
theorem bo:gg qc xP=(tW,0):=nD
theorem bR:gg tW (xN 3)=(yY,0):=nD
theorem bS:gg yY xQ=(yZ,0):=nD
theorem bX:gg yZ (xN 3)=(D7,0):=nD
theorem cS:gg D7 (xN 4)=(yZ,0):=nD
theorem cX:gg gh xP=(gh,4):=nD
theorem dB:gg tW xP=(gh,121):=nD
theorem dX:gg yY (xN 4)=(gh,140):=nD
theorem abC:gg tW (xN 5)=(qc,0):=nD
theorem abD:gg qc xQ=(Ox,0):=nD
theorem abE:gg qc xT=(gh,121):=nD
end Go.Proofs.YtajimcniogfpcaaGreatDoor
namespace Go.Proofs.YtajimcniogfpcaaGreatDoor
open _root_.Go.Proofs.Tryz
open Go.Sx Go.Proofs Go.RowKit
def Vi:List (Nat×Nat×AC×List RC):=[bp RW.r,bp afK.r,bp R1.r,bp R2.r,bp af4.r,bp (d143.r func143 ac9),bp af5.r,bp R4.r,bp k16.r,bp R6.r,bp agi.r,bp agk.r,bp agl.r,bp R8.r,bp Sa.r,bp agr.r,bp agu.r,bp agv.r,bp agx.r,bp agy.r,bp Sc.r,bp agL.r,bp agO.r,bp Sf.r,bp k4.r,bp k44.r,bp k51.r,bp k52.r,bp Sh.r,bp Si.r,bp Sk.r,bp Sq.r,bp Sr.r,bp k8.r,bp Lg.r,bp k96.r,bp Sb.r,bp Sd.r,bp Fo.r,bp k45.r,bp k46.r,bp k49.r,bp (d90.r func90 ada),bp k97.r,bp k18.r,bp agw.r,bp agN.r,bp Se.r,bp Sn.r,bp R3.r,bp ags.r,bp Fl.r,bp k47.r,bp k88.r,bp (d93.r func93 adb),bp R9.r,bp Sm.r,bp afI.r,bp R0.r,bp af1.r,bp af3.r,bp agq.r,bp Lf.r,bp RZ.r,bp af2.r,bp k19.r,bp agp.r,bp RY.r,bp agt.r,bp agM.r,bp agj.r]
theorem ak2:yK prog Vi:= .cons _ (.cons _ (.cons _ (.cons _ (.cons _ (.cons _ (.cons _ (.cons _ (.cons _ (.cons _ (.cons _ (.cons _ (.cons _ (.cons _ (.cons _ (.cons _ (.cons _ (.cons _ (.cons _ (.cons _ (.cons _ (.cons _ (.cons _ (.cons _ (.cons _ (.cons _ (.cons _ (.cons _ (.cons _ (.cons _ (.cons _ (.cons _ (.cons _ (.cons _ (.cons _ (.cons _ (.cons _ (.cons _ (.cons _ (.cons _ (.cons _ (.cons _ (.cons _ (.cons _ (.cons _ (.cons _ (.cons _ (.cons _ (.cons _ (.cons _ (.cons _ (.cons _ (.cons _ (.cons _ (.cons _ (.cons _ (.cons _ (.cons _ (.cons _ (.cons _ (.cons _ (.cons _ (.cons _ (.cons _ (.cons _ (.cons _ (.cons _ (.cons _ (.cons _ (.cons _ (.cons _ (.nil)))))))))))))))))))))))))))))))))))))))))))))))))))))))))))))))))))))))
def e0:AV:= .agg [iv 0,sv s0,sv s0,sv s0,iv 0]
theorem sB(x y:Operand)(ty:TypeId):ko prog (.binOp .eql 72 x y 72) ty [] [x,y] [e0,e0] (.v (.bool true)):=⟨fun σ bx M w0 w ρ hI hR=>by
 obtain⟨v1,cP,e1,h1,cJ⟩:=Sx.RL.bg hR
 obtain⟨v2,e2,h2⟩:=Sx.RL.cT cJ
 subst e2
 simp only[ZE,Y4,Z3,Zn]at e1
 have eqv:∀ {v:Value},R M e0 v→v= .agg #[.int .i64 0,.string s0,.string s0,.string s0,.int .i64 0]:=fun h=>by
  obtain⟨cs,rfl,q0⟩:=h.np
  obtain⟨a1,r1,rfl,k1,q1⟩:=q0.bg
  obtain⟨a2,r2,rfl,k2,q2⟩:=q1.bg
  obtain⟨a3,r3,rfl,k3,q3⟩:=q2.bg
  obtain⟨a4,r4,rfl,k4,q4⟩:=q3.bg
  obtain⟨a5,rfl,k5⟩:=q4.cT
  rw[k1.ay,k2.ay,k3.ay,k4.ay,k5.ay]
 have g1:=eqv h1
 have g2:=eqv h2
 subst g1 g2
 refine⟨.value (.bool true),w,M,.v (.bool true),_,_,?_,rfl,Sx.Mem.le.refl _,hI,.v _,rfl,rfl⟩
 simp only[execOp,e1.1,e1.2]
 kernel_rfl⟩
def LI(op:Op)(ty:TypeId)(ti:List TI)(args:List Operand)(ys:List AV):Option AV:=match Mz op ty ti args ys with
 |some r=>some r
 |none=>match op,ti with
  | .binOp .eql t x y u,[]=>bif Nat.beq t 72 && (Nat.beq u 72 && (lu args [x,y] && oM ys [e0,e0]))then some (.v (.bool true))else none
  |_,_=>none
theorem ah9{op:Op}{ty:TypeId}{ti:List TI}{args:List Operand}{ys:List AV}{r:AV}(h:LI op ty ti args ys=some r):ko prog op ty ti args ys r∧bN r=some r:=by
 unfold LI at h
 split at h
 ·rename_i hs;cases h;exact akE hs
 ·split at h
  ·rename_i t x y u _
   cases hb:(Nat.beq t 72 && (Nat.beq u 72 && (lu args [x,y] && oM ys [e0,e0])))with
   |false=>rw[hb]at h;cases h
   |true=>
    rw[hb]at h
    cases h
    simp only[Z6]at hb
    obtain⟨h1,h2,h3,h4⟩:=hb
    have h1:=Z2 h1
    have h2:=Z2 h2
    subst h1 h2
    rw[CV h3]
    exact⟨⟨fun σ bx M w0 w ρ hI hR=>(sB x y ty).sp σ bx M w0 w ρ hI ((tQ h4).sound hR)⟩,rfl⟩
  ·cases h
def tX(l:List (FuncId×List AV×AV)):XT:=⟨Sx.look Vi,fun _ _=>0,LY l,LI,fun op _ ti args ys d n σ=>Lt op ti args ys d n σ,fun _=>none,fun f=>([104,106,118,119,142,143,144,148,16,166,184,188,191,192,21,217,220,221,223,226,23,257,260,29,4,44,51,52,57,60,62,68,70,8,85,96,22,27,43,45,46,49,90,97,18,222,259,28,66,147,218,41,47,88,93,20,65,101,116,139,141,211,67,115,140,19,210,114,219,258,186]:List Nat).elem f,fun f=>([143,188,217,220,221,223,257,260,44,43,222,259,218,41,141,140,219,258]:List Nat).elem f⟩
theorem akO(l:List (FuncId×List AV×AV)):(tX l).OK prog:=⟨fun _ _ h=>(nomatch h),fun _ _ h=>(nomatch h),fun _ _ _ _ _ _ h=>ah9 h,fun f h=>by
 have ha:([104,106,118,119,142,143,144,148,16,166,184,188,191,192,21,217,220,221,223,226,23,257,260,29,4,44,51,52,57,60,62,68,70,8,85,96,22,27,43,45,46,49,90,97,18,222,259,28,66,147,218,41,47,88,93,20,65,101,116,139,141,211,67,115,140,19,210,114,219,258,186]:List Nat).all (ij prog)=true:=by kernel_rfl
 exact ZB.1 ha f (Xg h)⟩
theorem vC(l:List (FuncId×List AV×AV))(hl:∀ e∈l,eO prog e.1 e.2.1 e.2.2)(k:Nat){f:FuncId}{ys:List AV}{r:AV}(h:pU (eN (tX l) k).call f ys 0=some r):Sx.Pure prog f ys r:=
 Pure.exec (akO l) ak2.look (fun _ _ _ _ _ _ _ _ _ _ _ h a b=>ahA h a b) (aiL rfl hl) k h
theorem ab8(l:List UInt8):Lib.bytesOf (l.map fun b=>(b.toNat:Int))=l:=by
 unfold Lib.bytesOf
 rw[Yi]
 conv=>rhs;rw[← List.map_id l]
 exact List.map_congr_left fun b _=>by simp
theorem K4(l:List UInt8)(hl:l≠[])(c:UInt8):Sx.Pure prog 212 [.sl true 1 (l.map du),.v (.int .u8 c.toNat)] (iv (Lib.indexByte l c)):=by
 refine Pure.sW fun M w0 w σ cs hI hR=> ?_
 obtain⟨v1,vs,rfl,h1,h2⟩:=hR.bg
 obtain⟨v2,rfl,h3⟩:=h2.cT
 obtain rfl:=h3.ay
 rcases h1.om with⟨a,_,h0,_⟩|⟨b,off,cap,cs,rfl,hr,h4,h5⟩
 ·exact absurd (XC.1 h0) hl
 have hlen:(l.map du).length=l.length:=Z4 _
 refine(Tryz.bytes_IndexByte b off _ cap (l.map fun b=>(b.toNat:Int)) c.toNat w (by simp) (fun i hi=> ?_)).mono fun e w' ⟨he,hw⟩=>⟨⟨_,he,?_⟩,by rw[hw];exact Below.refl _ _⟩
 ·have cK:i<l.length:=by omega
  have h6:=hI.cH _ _ _ (hr.mem i (by omega))
  have h7:=hr.rel i hi 0 (by simp[du])
  simp only[Zj,du,YG,XY,Yr]at h7
  rw[h6,h7.ay]
  simp[ZU,cK]
 ·rw[ab8]
  have:((c.toNat:Int).toNat.toUInt8)=c:=by simp
  rw[this];exact .v _
theorem eO.of{f:FuncId}{ys:List AV}{r r':AV}(h:Sx.Pure prog f ys r)(e:r=r':=by kernel_rfl)(hw:bN r'=some r':=by kernel_rfl):eO prog f ys r':=⟨e ▸ h,hw⟩
def xB:List (FuncId×List AV×AV):=[(212,[.sl true 1 ([2,3,4].map du),.v (.int .u8 1)],iv (-1)),
 (212,[.sl true 1 ([2,3,4].map du),.v (.int .u8 2)],iv (0)),
 (212,[.sl true 1 ([2,3,4].map du),.v (.int .u8 7)],iv (-1)),
 (149,[.sl true 1 [[sv ⟨#[32,110,58,32,105,110,116]⟩]],sv ⟨#[44]⟩],sv ⟨#[32,110,58,32,105,110,116]⟩),
 (149,[.sl true 1 [[sv ⟨#[105,110,116]⟩],[sv ⟨#[]⟩]],sv ⟨#[]⟩],sv ⟨#[105,110,116]⟩),
 (149,[.sl true 1 [[sv ⟨#[116,97,98,108,101,32,99,108,105,99,107,115,32,111,102,32,117,115,101,114,32,123,32,110,58,32,105,110,116,32,125]⟩],[sv ⟨#[59]⟩]],sv ⟨#[]⟩],sv ⟨#[116,97,98,108,101,32,99,108,105,99,107,115,32,111,102,32,117,115,101,114,32,123,32,110,58,32,105,110,116,32,125,59]⟩),
 (149,[.sl true 1 [[sv ⟨#[32]⟩],[sv ⟨#[110]⟩],[sv ⟨#[58,32]⟩],[sv ⟨#[105,110,116]⟩]],sv ⟨#[]⟩],sv ⟨#[32,110,58,32,105,110,116]⟩),
 (149,[.sl true 1 [[sv ⟨#[116,97,98,108,101,32]⟩],[sv ⟨#[99,108,105,99,107,115]⟩],[sv ⟨#[32,111,102,32]⟩],[sv ⟨#[117,115,101,114]⟩],[sv ⟨#[32,123]⟩],[sv ⟨#[32,110,58,32,105,110,116]⟩],[sv ⟨#[32,125]⟩]],sv ⟨#[]⟩],sv ⟨#[116,97,98,108,101,32,99,108,105,99,107,115,32,111,102,32,117,115,101,114,32,123,32,110,58,32,105,110,116,32,125]⟩),
 (163,[sv ⟨#[99,108,105,99,107,115]⟩,sv ⟨#[32]⟩],.v (.bool false)),
 (163,[sv ⟨#[110]⟩,sv ⟨#[32]⟩],.v (.bool false)),
 (163,[sv ⟨#[117,115,101,114]⟩,sv ⟨#[32]⟩],.v (.bool false)),
 (163,[sv ⟨#[32,116,97,98,108,101,32,102,101,97,116,117,114,101,32,111,102,32,107,101,101,112,32,98,111,111,108,32,116,101,120,116,32,107,101,121,32,105,110,116,32,100,101,99,32,105,102,32,116,104,101,110,32,101,108,115,101,32,100,101,102,97,117,108,116,32,111,114,32,97,110,100,32,110,111,116,32,116,114,117,101,32,102,97,108,115,101,32,110,117,108,108,32,99,111,117,110,116,32,115,117,109,32,109,101,97,110,32,109,105,110,32,109,97,120,32,102,105,114,115,116,32,108,97,115,116,32,100,105,115,116,105,110,99,116,32,113,117,97,110,116,105,108,101,32,100,101,99,97,121,32,97,108,108,32,115,108,105,100,105,110,103,32,116,117,109,98,108,105,110,103,32,115,101,115,115,105,111,110,32,119,104,101,114,101,32]⟩,sv ⟨#[32,99,108,105,99,107,115,32]⟩],.v (.bool false)),
 (163,[sv ⟨#[32,116,97,98,108,101,32,102,101,97,116,117,114,101,32,111,102,32,107,101,101,112,32,98,111,111,108,32,116,101,120,116,32,107,101,121,32,105,110,116,32,100,101,99,32,105,102,32,116,104,101,110,32,101,108,115,101,32,100,101,102,97,117,108,116,32,111,114,32,97,110,100,32,110,111,116,32,116,114,117,101,32,102,97,108,115,101,32,110,117,108,108,32,99,111,117,110,116,32,115,117,109,32,109,101,97,110,32,109,105,110,32,109,97,120,32,102,105,114,115,116,32,108,97,115,116,32,100,105,115,116,105,110,99,116,32,113,117,97,110,116,105,108,101,32,100,101,99,97,121,32,97,108,108,32,115,108,105,100,105,110,103,32,116,117,109,98,108,105,110,103,32,115,101,115,115,105,111,110,32,119,104,101,114,101,32]⟩,sv ⟨#[32,110,32]⟩],.v (.bool false)),
 (163,[sv ⟨#[32,116,97,98,108,101,32,102,101,97,116,117,114,101,32,111,102,32,107,101,101,112,32,98,111,111,108,32,116,101,120,116,32,107,101,121,32,105,110,116,32,100,101,99,32,105,102,32,116,104,101,110,32,101,108,115,101,32,100,101,102,97,117,108,116,32,111,114,32,97,110,100,32,110,111,116,32,116,114,117,101,32,102,97,108,115,101,32,110,117,108,108,32,99,111,117,110,116,32,115,117,109,32,109,101,97,110,32,109,105,110,32,109,97,120,32,102,105,114,115,116,32,108,97,115,116,32,100,105,115,116,105,110,99,116,32,113,117,97,110,116,105,108,101,32,100,101,99,97,121,32,97,108,108,32,115,108,105,100,105,110,103,32,116,117,109,98,108,105,110,103,32,115,101,115,115,105,111,110,32,119,104,101,114,101,32]⟩,sv ⟨#[32,117,115,101,114,32]⟩],.v (.bool false))]
theorem CO:∀ e∈xB,eO prog e.1 e.2.1 e.2.2:=by
 unfold xB
 simp only[List.forall_mem_cons]
 exact⟨eO.of (K4 [2,3,4] (by decide) 1),
  eO.of (K4 [2,3,4] (by decide) 2),
  eO.of (K4 [2,3,4] (by decide) 7),
  eO.of (qB [⟨#[32,110,58,32,105,110,116]⟩] ⟨#[44]⟩ true (by decide) (by decide)),
  eO.of (qB [⟨#[105,110,116]⟩,⟨#[]⟩] ⟨#[]⟩ true (by decide) (by decide)),
  eO.of (qB [⟨#[116,97,98,108,101,32,99,108,105,99,107,115,32,111,102,32,117,115,101,114,32,123,32,110,58,32,105,110,116,32,125]⟩,⟨#[59]⟩] ⟨#[]⟩ true (by decide) (by decide)),
  eO.of (qB [⟨#[32]⟩,⟨#[110]⟩,⟨#[58,32]⟩,⟨#[105,110,116]⟩] ⟨#[]⟩ true (by decide) (by decide)),
  eO.of (qB [⟨#[116,97,98,108,101,32]⟩,⟨#[99,108,105,99,107,115]⟩,⟨#[32,111,102,32]⟩,⟨#[117,115,101,114]⟩,⟨#[32,123]⟩,⟨#[32,110,58,32,105,110,116]⟩,⟨#[32,125]⟩] ⟨#[]⟩ true (by decide) (by decide)),
  eO.of (D6 ⟨#[99,108,105,99,107,115]⟩ 32),
  eO.of (D6 ⟨#[110]⟩ 32),
  eO.of (D6 ⟨#[117,115,101,114]⟩ 32),
  eO.of (D5 ⟨#[32,116,97,98,108,101,32,102,101,97,116,117,114,101,32,111,102,32,107,101,101,112,32,98,111,111,108,32,116,101,120,116,32,107,101,121,32,105,110,116,32,100,101,99,32,105,102,32,116,104,101,110,32,101,108,115,101,32,100,101,102,97,117,108,116,32,111,114,32,97,110,100,32,110,111,116,32,116,114,117,101,32,102,97,108,115,101,32,110,117,108,108,32,99,111,117,110,116,32,115,117,109,32,109,101,97,110,32,109,105,110,32,109,97,120,32,102,105,114,115,116,32,108,97,115,116,32,100,105,115,116,105,110,99,116,32,113,117,97,110,116,105,108,101,32,100,101,99,97,121,32,97,108,108,32,115,108,105,100,105,110,103,32,116,117,109,98,108,105,110,103,32,115,101,115,115,105,111,110,32,119,104,101,114,101,32]⟩ ⟨#[32,99,108,105,99,107,115,32]⟩ (by decide)),
  eO.of (D5 ⟨#[32,116,97,98,108,101,32,102,101,97,116,117,114,101,32,111,102,32,107,101,101,112,32,98,111,111,108,32,116,101,120,116,32,107,101,121,32,105,110,116,32,100,101,99,32,105,102,32,116,104,101,110,32,101,108,115,101,32,100,101,102,97,117,108,116,32,111,114,32,97,110,100,32,110,111,116,32,116,114,117,101,32,102,97,108,115,101,32,110,117,108,108,32,99,111,117,110,116,32,115,117,109,32,109,101,97,110,32,109,105,110,32,109,97,120,32,102,105,114,115,116,32,108,97,115,116,32,100,105,115,116,105,110,99,116,32,113,117,97,110,116,105,108,101,32,100,101,99,97,121,32,97,108,108,32,115,108,105,100,105,110,103,32,116,117,109,98,108,105,110,103,32,115,101,115,115,105,111,110,32,119,104,101,114,101,32]⟩ ⟨#[32,110,32]⟩ (by decide)),
  eO.of (D5 ⟨#[32,116,97,98,108,101,32,102,101,97,116,117,114,101,32,111,102,32,107,101,101,112,32,98,111,111,108,32,116,101,120,116,32,107,101,121,32,105,110,116,32,100,101,99,32,105,102,32,116,104,101,110,32,101,108,115,101,32,100,101,102,97,117,108,116,32,111,114,32,97,110,100,32,110,111,116,32,116,114,117,101,32,102,97,108,115,101,32,110,117,108,108,32,99,111,117,110,116,32,115,117,109,32,109,101,97,110,32,109,105,110,32,109,97,120,32,102,105,114,115,116,32,108,97,115,116,32,100,105,115,116,105,110,99,116,32,113,117,97,110,116,105,108,101,32,100,101,99,97,121,32,97,108,108,32,115,108,105,100,105,110,103,32,116,117,109,98,108,105,110,103,32,115,101,115,115,105,111,110,32,119,104,101,114,101,32]⟩ ⟨#[32,117,115,101,114,32]⟩ (by decide)),fun _ h=>nomatch h⟩
def GC:ae:=⟨#[116,97,98,108,101,32,99,108,105,99,107,115,32,111,102,32,117,115,101,114,32,123,32,110,58,32,105,110,116,32,125,59]⟩
theorem akU:Sx.Pure prog 104 [.agg tK.cells] (.aP [sv GC,iv 0]):=vC xB CO 200 (by kernel_rfl)
end Go.Proofs.YtajimcniogfpcaaGreatDoor
namespace Go.Proofs.YtajimcniogfpcaaGreatDoor
open _root_.Go.Proofs.Tryz
open Go.Sx Go.Proofs Go.Tb Go.RowKit
theorem ak4:Sx.Pure prog 50 [.agg xT.cells] (.aP [sv GC,.v (.bool true)]):=by
 have hP:=TR xT
 rw[YR (by decide)]at hP
 refine k50.p fun σ=> ?_
 repeat'((fail_if_success (show WK _ _ _ _ (.eE _ _) _ _ _));(first|exact .nil|refine .k0 ?_|refine .k1 ?_|refine .k2 ?_|refine .r1 ?_ ?_|(refine .m1 ?_ ?_;intro b)|fail))
 refine Ic 1 4 5 (bb:=true) (E:= .agg [lP 55,lP 56]) (.inr ⟨rfl,rfl,rfl⟩) (k:=1) rfl rfl rfl rfl rfl rfl rfl rfl fun b9 b6=> ?_
 repeat'(first|exact .nil|refine .k0 ?_|refine .k1 ?_|refine .k2 ?_|refine .r1 ?_ ?_|fail)
 all_goals(try simp only[BL]at *)
 refine yL (by rfl) rfl rfl (fun _=>hP) ?_ ?_
 ·exact .cons (fun _=>rfl) (.cons (fun _=>rfl) .nil)
 repeat'(first|exact .nil|refine .k0 ?_|refine .k1 ?_|refine .k2 ?_|refine .k6 ?_|refine .k7 ?_|refine .k9 ?_|(refine .cd ?_ ?_<;>(intro hc;first|exact kt hc (by assumption)|skip))|refine .r1 ?_ ?_|refine .an rfl (by intro aB;exact akU) ?_ ?_|fail)
 all_goals(try simp only[BL]at *)
 ·cases hc
 ·exact Zw
 ·exact absurd rfl (by assumption)
theorem aiG:Sx.Pure prog 17 [sv sN] (.agg xP.cells):=by
 have aH:¬sN=⟨#[115,117,109]⟩:=by decide
 refine R7.p fun σ=> ?_
 repeat'(first|exact .nil|refine .k0 ?_|refine .k1 ?_|refine .k2 ?_|refine .k7 ?_|refine .k9 ?_|(refine .cd ?_ ?_<;>(intro hc;skip))|refine .r1 ?_ ?_|(refine .l1 ?_;intro b)|refine .an rfl (by intro aB;(refine Vp.wk ?_;(repeat' first|exact .refl _|fail);done)) ?_ ?_|refine .r8 ?_ ?_|fail)
 all_goals(try simp only[BL]at *)
 ·show 2≤1000000;decide
 ·exact absurd hc aH
 ·exact absurd hc aH
 ·exact Zw
def Jn:List AV:=[iv 2,sv s0,sv Ay,sv s0,iv 0,iv 0,sv s0,bD,iv 0,iv 0,iv 0,bD]
def IG:List AV:=[iv 2,sv s0,sv s0,bD,iv 0,sv sA,sv sU,iv 2,bD,sv s0,iv 5,sv C7,sv s0,sv sT,iv 0,iv 0,sv s0,bD,iv 0,iv 1,iv 0,bD,iv 0,sv s0]
theorem aiI(σ:Store):Sx.Spec prog 17 [sv C7] σ fun r σ'=>∃ b,r= .ret (.agg (IG.set 21 (.ms 8 b 0 2 2)))∧Sx.Sub ((8,b,.cells (Jn++jL.row))::σ) σ':=by
 refine R7.sc (fun d=>bif Nat.beq d 8 then 2 else 0) ?_
 repeat'(first|exact .nil|refine .k0 ?_|refine .k1 ?_|refine .k2 ?_|refine .r1 ?_ ?_|(refine .l1 ?_;intro b)|refine .an rfl (by intro aB;(refine Vp.wk ?_;(repeat' first|exact .refl _|fail);done)) ?_ ?_|fail)
 all_goals(try simp only[BL]at *)
 refine aav rfl (by rfl) (by rfl) (by show 2≤1000000;decide) .nil fun b8=> ?_
 repeat'(first|exact .nil|refine .k0 ?_|refine .k1 ?_|refine .k2 ?_|refine .k7 ?_|refine .k9 ?_|(refine .cd ?_ ?_<;>(intro hc;skip))|refine .r1 ?_ ?_|(refine .l1 ?_;intro b)|refine .r8 ?_ ?_|fail)
 all_goals(try simp only[BL]at *)
 ·exact⟨Int.le_refl 0,by decide⟩
 ·exact⟨b8,rfl,.cons (.same (.cons (.refl _)))⟩
 ·exact absurd trivial hc
theorem aiH:Sx.Pure prog 17 [sv C7] (.agg xQ.cells):=by
 refine⟨fun σ M w0 w cs hI hR=> ?_⟩
 refine(aiI σ M w0 w cs hI hR).mono fun e w' ⟨M',r,σ',hM,bw,hr,b,e1,e2⟩=> ?_
 subst e1
 obtain⟨M2,oU,ji,hs⟩:=Ev (K:=12) (c:=2) (rows:=[Jn,jL.row]) (bw.sub e2) (fun i h=>by match i,h with|0,_=>rfl|1,_=>rfl) rfl (ZM _) (by unfold maxLen;decide)
 refine⟨M2,.ret (.agg xQ.cells),σ,hM.trans oU,ji,?_,rfl,rfl⟩
 cases e with
 |returned v=>
  have hr:R M' (.agg (IG.set 21 (.ms 8 b 0 2 2))) v:=hr
  obtain⟨cs,rfl,h⟩:=hr.np
  have h2:RL M2 (IG.set 21 (.sl true 12 [Jn,jL.row])) cs:=⟨by rw[← h.1,Xe,Xe],fun i a c=>by
   have h3:=h.2 i (by rw[Xe]at a ⊢;exact a) c
   rw[List.getElem_set]at h3 ⊢
   split at h3
   ·rename_i h4
    rw[ZW h4,h3.qG];exact hs
   ·rename_i h4
    rw[Z5 h4];exact h3.mono oU⟩
  exact R.su ((tQ (by kernel_rfl)).sound h2)
 |_=>exact hr.elim
end Go.Proofs.YtajimcniogfpcaaGreatDoor
namespace Go.Proofs.YtajimcniogfpcaaGreatDoor
open _root_.Go.Proofs.Tryz
open Go.Sx Go.Proofs Go.RowKit
abbrev w(n:Int):AV:= .v (.int .u8 n)
def Ot:AV:= .agg [w 0,w 0,w 0,w 0,w 0,w 0,w 0,w 0,w 0,w 1,w 1,w 0,w 0,w 1,w 0,w 0,w 0,w 0,w 0,w 0,w 0,w 0,w 0,w 0,w 0,w 0,w 0,w 0,w 0,w 0,w 0,w 0,w 1,w 8,w 5,w 6,w 0,w 0,w 0,w 0,w 7,w 7,w 7,w 7,w 7,w 7,w 0,w 7,w 3,w 3,w 3,w 3,w 3,w 3,w 3,w 3,w 3,w 3,w 7,w 7,w 7,w 7,w 0,w 0,w 7,w 0,w 0,w 0,w 0,w 0,w 0,w 0,w 0,w 0,w 0,w 0,w 0,w 0,w 0,w 0,w 0,w 0,w 0,w 0,w 0,w 0,w 0,w 0,w 0,w 0,w 0,w 7,w 0,w 7,w 7,w 4,w 0,w 2,w 2,w 2,w 2,w 2,w 2,w 2,w 2,w 2,w 2,w 2,w 2,w 2,w 2,w 2,w 2,w 2,w 2,w 2,w 2,w 2,w 2,w 2,w 2,w 2,w 2,w 7,w 0,w 7,w 0,w 0,w 0,w 0,w 0,w 0,w 0,w 0,w 0,w 0,w 0,w 0,w 0,w 0,w 0,w 0,w 0,w 0,w 0,w 0,w 0,w 0,w 0,w 0,w 0,w 0,w 0,w 0,w 0,w 0,w 0,w 0,w 0,w 0,w 0,w 0,w 0,w 0,w 0,w 0,w 0,w 0,w 0,w 0,w 0,w 0,w 0,w 0,w 0,w 0,w 0,w 0,w 0,w 0,w 0,w 0,w 0,w 0,w 0,w 0,w 0,w 0,w 0,w 0,w 0,w 0,w 0,w 0,w 0,w 0,w 0,w 0,w 0,w 0,w 0,w 0,w 0,w 0,w 0,w 0,w 0,w 0,w 0,w 0,w 0,w 0,w 0,w 0,w 0,w 0,w 0,w 0,w 0,w 0,w 0,w 0,w 0,w 0,w 0,w 0,w 0,w 0,w 0,w 0,w 0,w 0,w 0,w 0,w 0,w 0,w 0,w 0,w 0,w 0,w 0,w 0,w 0,w 0,w 0,w 0,w 0,w 0,w 0,w 0,w 0,w 0,w 0,w 0,w 0,w 0]
theorem acp:Sx.Pure prog 184 [] Ot:=vC xB CO 200 (by kernel_rfl)
theorem wH{l:List (FuncId×List AV×AV)}{f:FuncId}{ys:List AV}{r:AV}(hl:∀ e∈l,eO prog e.1 e.2.1 e.2.2)(h:Sx.Pure prog f ys r)(hw:bN r=some r:=by kernel_rfl):∀ e∈(f,ys,r)::l,eO prog e.1 e.2.1 e.2.2:=by
 simp only[List.forall_mem_cons]
 exact⟨⟨h,hw⟩,hl⟩
def SG:List (FuncId×List AV×AV):=(184,[],Ot)::xB
theorem ahg:∀ e∈SG,eO prog e.1 e.2.1 e.2.2:=wH CO acp
def Gk:AV:= .sl true 1 (GC.data.toList.map du)
def tok14:AV:= .aP [.sl true 3 [[iv 1,sv ⟨#[116,97,98,108,101]⟩,iv 0],[iv 1,sv sT,iv 6],[iv 1,sv ⟨#[111,102]⟩,iv 13],[iv 1,sv sU,iv 16],[iv 5,sv ⟨#[123]⟩,iv 21],[iv 1,sv Ay,iv 23],[iv 5,sv ⟨#[58]⟩,iv 24],[iv 1,sv ⟨#[105,110,116]⟩,iv 26],[iv 5,sv ⟨#[125]⟩,iv 30],[iv 5,sv ⟨#[59]⟩,iv 31],[iv 6,sv s0,iv 32]],bD,iv 0]
theorem ak8:Sx.Pure prog 142 [Gk] tok14:=vC SG ahg 200 (by kernel_rfl)
def SH:List (FuncId×List AV×AV):=(142,[Gk],tok14)::xB
theorem ahh:∀ e∈SH,eO prog e.1 e.2.1 e.2.2:=wH CO ak8
def S7:AV:= .aP [.agg [.sl true 4 [[sv sT,sv sU,.sl true 4 [[sv Ay,iv 2,bD,sv s0]],iv 0]],bD],bD,iv 0]
theorem ahI:Sx.Pure prog 96 [Gk] S7:=vC SH ahh 200 (by kernel_rfl)
def Fp:List (FuncId×List AV×AV):=(96,[Gk],S7)::(50,[.agg xT.cells],.aP [sv GC,.v (.bool true)])::xB
theorem Li:∀ e∈Fp,eO prog e.1 e.2.1 e.2.2:=wH (wH CO ak4) ahI
def BB(no tick kind:Int)(x:List AV):AV:= .agg ([iv no,iv tick,iv kind,sv s0,iv 0,iv 0,iv 0,sv s0,sv s0,iv 0,bD,iv 0,sv s0,sv s0,sv s0,iv 0]++x)
def ab7:List AV→List (List AV):=List.map fun x=>[x]
def DV:AV:= .sl true 1 (ab7 [w 2,w 4,w 6,w 2,w 0,w 32,w 116,w 97,w 98,w 108,w 101,w 32,w 99,w 108,w 105,w 99,w 107,w 115,w 32,w 111,w 102,w 32,w 117,w 115,w 101,w 114,w 32,w 123,w 32,w 110,w 58,w 32,w 105,w 110,w 116,w 32,w 125,w 59])
theorem abH:Sx.Pure prog 22 [bD,BB 1 2 3 xT.cells] DV:=vC Fp Li 200 (by kernel_rfl)
theorem abI:Sx.Pure prog 22 [bD,BB 0 0 4 (iv 0::DB.cells++Hg.cells++[sv s0])] bD:=vC Fp Li 200 (by kernel_rfl)
def Um:AV:= .aP [BB 1 2 3 (iv 1::[sv sT,sv sU,.sl true 4 [[sv Ay,iv 2,bD,sv s0]],iv 0]++[sv s0,sv s0,iv 0,bD,sv s0,iv 0,sv s0,sv s0,sv s0,iv 0,iv 0,sv s0,bD,iv 0,iv 0,iv 0,bD,iv 0]++[sv s0]),iv 38,iv 0]
theorem aiY:Sx.Pure prog 21 [DV,iv 0] Um:=vC Fp Li 200 (by kernel_rfl)
def Ef(f:aj):Bool:=decide (f.body.size≤1000) && (decide (f.name.size≤2 ^ 60) && decide (f.body.wt≤2 ^ 60))
def Ol(c:az):Bool:=decide (c.tables.length≤10) && (decide (c.features.length≤10) && (decide (c.aT.length≤10) && (decide (c.past.length≤10) && c.all.all Ef)))
theorem Pp{f:aj}(h:Ef f=true):FB f:=by
 unfold Ef at h
 simp only[Z6,ZN]at h
 exact⟨h.1,h.2.1,h.2.2⟩
theorem oq{c:az}{x:dE}{r:az×Int}(h:gg c x=r)(hc:Ol c=true:=by kernel_rfl)(hx:Ef x.feature=true:=by kernel_rfl)(hw:bN (db r)=some (db r):=by kernel_rfl):eO prog 7 [.agg c.cells,.agg x.cells] (db r):=by
 unfold Ol at hc
 simp only[Z6,ZN]at hc
 obtain⟨h1,h2,h3,h4,h5⟩:=hc
 exact⟨h ▸ N3 Gy FQ c x 10 (by decide) ⟨h1,h2,h3,h4,fun f hf=>Pp (ZB.1 h5 f hf)⟩ (Pp hx),hw⟩
def IZ:List (FuncId×List AV×AV):=[(17,[sv sN],.agg xP.cells),(17,[sv C7],.agg xQ.cells),
 (7,[.agg gh.cells,.agg xT.cells],db (qc,0)),
 (7,[.agg qc.cells,.agg xP.cells],db (tW,0)),
 (7,[.agg tW.cells,.agg (xN 3).cells],db (yY,0)),
 (7,[.agg yY.cells,.agg xQ.cells],db (yZ,0)),
 (7,[.agg yZ.cells,.agg (xN 3).cells],db (D7,0)),
 (7,[.agg D7.cells,.agg (xN 4).cells],db (yZ,0)),
 (7,[.agg gh.cells,.agg xP.cells],db (gh,4)),
 (7,[.agg tW.cells,.agg xP.cells],db (gh,121)),
 (7,[.agg yY.cells,.agg (xN 4).cells],db (gh,140)),
 (7,[.agg tW.cells,.agg (xN 5).cells],db (qc,0)),
 (7,[.agg qc.cells,.agg xQ.cells],db (Ox,0)),
 (7,[.agg qc.cells,.agg xT.cells],db (gh,121))]
theorem adl:∀ e∈IZ,eO prog e.1 e.2.1 e.2.2:=by
 unfold IZ
 simp only[List.forall_mem_cons]
 exact⟨eO.of aiG,eO.of aiH,oq aX,oq bo,oq bR,oq bS,oq bX,oq cS,oq cX,oq dB,oq dX,oq abC,oq abD,oq abE,fun _ h=>nomatch h⟩
def Pb:List (FuncId×List AV×AV):=(22,[bD,BB 1 2 3 xT.cells],DV)::(22,[bD,BB 0 0 4 (iv 0::DB.cells++Hg.cells++[sv s0])],bD)::(21,[DV,iv 0],Um)::IZ
theorem adm:∀ e∈Pb,eO prog e.1 e.2.1 e.2.2:=wH (wH (wH adl aiY) abI) abH
theorem adp:Sx.Pure prog 4 [] (.v (.bool true)):=vC Pb adm 200 (by kernel_rfl)
end Go.Proofs.YtajimcniogfpcaaGreatDoor
