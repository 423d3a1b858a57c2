import Derived.Test.YtmemninechdogaaGreatDoorAa
import Derived.Test.YtmemninechdogaaGreatDoorAh
import Derived.Test.YtmemninechdogaaGreatDoorAt
set_option linter.all false
set_option maxRecDepth 100000
set_option maxHeartbeats 4000000
namespace Go.Proofs.YtmemninechdogaaGreatDoor
open Go.Sx Go.Proofs Go.Tb Go.RowKit
abbrev yI:ae:=⟨#[110]⟩
abbrev BB:ae:=⟨#[115,117,109]⟩
def F0:aj:=⟨s0,s0,⟨0,[],s0⟩,⟨0,s0,s0,s0,⟨0,0,s0⟩,[],0,⟨0,0⟩,[]⟩,0⟩
def BX:aO:=⟨s0,s0,[],0⟩
def tK:aO:=⟨sT,sU,[⟨yI,⟨2,[],s0⟩⟩],0⟩
def ac9:Ex:=⟨2,s0,yI,s0,⟨0,0,s0⟩,[],0,⟨0,0⟩,[]⟩
def fX(op:ae)(a:Ex)(v:Int):aj:=⟨sA,sU,⟨2,[],s0⟩,⟨5,op,s0,sT,⟨0,0,s0⟩,[],0,⟨1,0⟩,[a,UW]⟩,v⟩
def fP(v:Int):aj:=fX sN UW v
def fQ(v:Int):aj:=fX BB ac9 v
def xT:dY:=⟨1,tK,F0,s0⟩
def xP:dY:=⟨2,BX,fP 0,s0⟩
def xQ:dY:=⟨2,BX,fQ 0,s0⟩
def xN(k:Int):dY:=⟨k,BX,F0,sA⟩
def pR:ay:=⟨[tK],[],[],[]⟩
def s8:ay:=⟨[tK],[],[fP 1],[]⟩
def xk:ay:=⟨[tK],[fP 1],[],[]⟩
def xl:ay:=⟨[tK],[fP 1],[fQ 2],[]⟩
def CQ:ay:=⟨[tK],[fQ 2],[],[fP 1]⟩
def M7:ay:=⟨[tK],[],[fQ 1],[]⟩
def CF(C:ay):Int:=
 if C.tables.length>16\/C.features.length>32\/C.aD.length>32\/C.past.length>32 then 2
 else if bE none C.tables≠0 then bE none C.tables
 else if gY C≠0 then gY C else jw C C.features
theorem abC{fs:List aj}(h:∀f∈fs,f.body.bH=[])(n:ae):deps fs n=[]:=by
 unfold deps;split
 .rename_i f hf;have:f∈fs:=XU hf;rw[abU (l:=[]) (by simp[bI]) (h f this)];rfl
 .rfl
theorem aaT{C:ay}(h:∀f∈C.features,f.body.bH=[]):iI C=CF C:=by
 have hc:lJ (deps C.features) (bX C.features)=[]:=CR (.inl ⟨rfl,fun a _ q hc=>by
  have:=hc.2
  rw[abC h]at this;grind⟩)
 unfold iI CF;grind
def Mz(c:ay)(x:dY):ay×Int:=
 if¬nX x then(ga,1)else if(dZ c x).2≠0 then(ga,(dZ c x).2)else if CF (dZ c x).1≠0 then(ga,CF (dZ c x).1)else((dZ c x).1,0)
theorem nu{c:ay}{x:dY}{r:ay×Int}(h:((dZ c x).1.features.all fun f=>f.body.bH.isEmpty)=true:=by kernel_rfl)(hr:Mz c x=r:=by kernel_rfl):cV c x=r:=by
 have h:∀f∈(dZ c x).1.features,f.body.bH=[]:=fun f hf=>by grind
 rw[<-hr];unfold cV Mz;rw[aaT h]
theorem ap1:cV ga xT=(pR,0):=nu
theorem ap2:cV pR xP=(s8,0):=nu
theorem ap3:cV s8 (xN 3)=(xk,0):=nu
theorem ap4:cV xk xQ=(xl,0):=nu
theorem ap5:cV xl (xN 3)=(CQ,0):=nu
theorem ap6:cV CQ (xN 4)=(xl,0):=nu
theorem ap7:cV ga xP=(ga,4):=nu
theorem ap8:cV s8 xP=(ga,121):=nu
theorem ap9:cV xk (xN 4)=(ga,140):=nu
theorem aag:cV s8 (xN 5)=(pR,0):=nu
theorem aah:cV pR xQ=(M7,0):=nu
theorem aai:cV pR xT=(ga,121):=nu
end Go.Proofs.YtmemninechdogaaGreatDoor
namespace Go.Proofs.YtmemninechdogaaGreatDoor
open _root_.Go.Proofs.Tryz
open Go.Sx Go.Proofs Go.RowKit
def TU:List (Nat×Nat×AC×List RC):=[aY k39.r,aY ae7.r,aY Qx.r,aY Qy.r,aY afs.r,aY (d153.r func153 ab1),aY aft.r,aY k87.r,aY k16.r,aY QD.r,aY afN.r,aY afP.r,aY afQ.r,aY afo.r,aY QA.r,aY agc.r,aY agf.r,aY agh.r,aY agj.r,aY agk.r,aY QC.r,aY agA.r,aY agF.r,aY QO.r,aY k5.r,aY k49.r,aY k56.r,aY k57.r,aY QJ.r,aY QK.r,aY QM.r,aY Qq.r,aY Qr.r,aY Qp.r,aY JT.r,aY ae3.r,aY QB.r,aY QF.r,aY k48.r,aY k50.r,aY k51.r,aY k54.r,aY (d97.r func97 ab2),aY ae4.r,aY k18.r,aY agi.r,aY agE.r,aY QG.r,aY QR.r,aY k86.r,aY agd.r,aY k46.r,aY k52.r,aY k95.r,aY (d100.r func100 ab3),aY Qz.r,aY QP.r,aY ae6.r,aY Qv.r,aY afp.r,aY afr.r,aY agb.r,aY JX.r,aY Qu.r,aY afq.r,aY k19.r,aY aga.r,aY Qt.r,aY age.r,aY agD.r,aY afO.r]
theorem alI:w7 prog TU:=.cons _ (.cons _ (.cons _ (.cons _ (.cons _ (.cons _ (.cons _ (.cons _ (.cons _ (.cons _ (.cons _ (.cons _ (.cons _ (.cons _ (.cons _ (.cons _ (.cons _ (.cons _ (.cons _ (.cons _ (.cons _ (.cons _ (.cons _ (.cons _ (.cons _ (.cons _ (.cons _ (.cons _ (.cons _ (.cons _ (.cons _ (.cons _ (.cons _ (.cons _ (.cons _ (.cons _ (.cons _ (.cons _ (.cons _ (.cons _ (.cons _ (.cons _ (.cons _ (.cons _ (.cons _ (.cons _ (.cons _ (.cons _ (.cons _ (.cons _ (.cons _ (.cons _ (.cons _ (.cons _ (.cons _ (.cons _ (.cons _ (.cons _ (.cons _ (.cons _ (.cons _ (.cons _ (.cons _ (.cons _ (.cons _ (.cons _ (.cons _ (.cons _ (.cons _ (.cons _ (.cons _ (.nil)))))))))))))))))))))))))))))))))))))))))))))))))))))))))))))))))))))))
def e0:AV:=.agg [iv 0,sv s0,sv s0,sv s0,iv 0]
theorem eqE(x y:Operand)(ty:TypeId):jU prog (.binOp .eql 71 x y 71) ty [] [x,y] [e0,e0] (.v (.bool true)):=⟨fun j bu M w0 w z hI hR=>by
 obtain⟨v1,cB,e1,h1,bV⟩:=Sx.RL.aZ hR;obtain⟨v2,e2,h2⟩:=Sx.RL.cR bV;subst e2;simp at e1;have eqv:∀{v:Value},R M e0 v->v= .agg #[.int .i64 0,.string s0,.string s0,.string s0,.int .i64 0]:=fun h=>by obtain⟨cs,rfl,q0⟩:=h.qq;obtain⟨a1,r1,rfl,k1,q1⟩:=q0.aZ;obtain⟨a2,r2,rfl,k2,q2⟩:=q1.aZ;obtain⟨a3,r3,rfl,k3,q3⟩:=q2.aZ;obtain⟨a4,r4,rfl,k4,q4⟩:=q3.aZ;obtain⟨a5,rfl,k5⟩:=q4.cR;rw[k1.aC,k2.aC,k3.aC,k4.aC,k5.aC]
 have g1:=eqv h1;have g2:=eqv h2;subst g1 g2;refine⟨.value (.bool true),w,M,.v (.bool true),_,_,?_,rfl,Sx.Mem.le.refl _,hI,.v _,rfl,rfl⟩;simp only[execOp,e1.1,e1.2]
 kernel_rfl⟩
def Kg(op:Op)(ty:TypeId)(ti:List TI)(args:List Operand)(ys:List AV):Option AV:=match K8 op ty ti args ys with
 |some r=>some r|none=>match op,ti with
  |.binOp .eql t x y u,[]=>bif Nat.beq t 71&&(Nat.beq u 71&&(ly args [x,y]&&ox ys [e0,e0]))then some (.v (.bool true))else none|_,_=>none
theorem aiu{op:Op}{ty:TypeId}{ti:List TI}{args:List Operand}{ys:List AV}{r:AV}(h:Kg op ty ti args ys=some r):jU prog op ty ti args ys r/\bM r=some r:=by
 unfold Kg at h;split at h
 .rename_i hs;cases h;exact alj hs
 .split at h
  .rename_i t x y u _;cases hb:(Nat.beq t 71&&(Nat.beq u 71&&(ly args [x,y]&&ox ys [e0,e0])))with
   |false=>grind|true=>rw[hb]at h;cases h;simp only[Z6]at hb;obtain⟨h1,h2,h3,h4⟩:=hb;have h1:=Z0 h1;have h2:=Z0 h2;subst h1 h2;rw[Bk h3];exact⟨⟨fun j bu M w0 w z hI hR=>(eqE x y ty).sp j bu M w0 w z hI ((sW h4).sound hR)⟩,rfl⟩
  grind
def tX(l:List (FuncId×List AV×AV)):XT:=⟨Sx.look TU,fun _ _=>0,Kt l,Kg,fun op _ ti args ys d n j=>J4 op ti args ys d n j,fun _=>none,fun f=>([39,111,178,179,152,153,154,87,16,232,210,214,217,142,21,263,266,267,269,272,23,321,324,76,5,49,56,57,68,71,73,130,132,13,176,103,22,37,48,50,51,54,97,104,18,268,323,38,85,86,264,46,52,95,100,20,84,108,145,149,151,257,90,141,150,19,256,140,265,322,212]:List Nat).elem f,fun f=>([153,214,263,266,267,269,321,324,49,48,268,323,264,46,151,150,265,322]:List Nat).elem f⟩
theorem alv(l:List (FuncId×List AV×AV)):(tX l).OK prog:=⟨fun _ _ h=>(nomatch h),fun _ _ h=>(nomatch h),fun _ _ _ _ _ _ h=>aiu h,fun f h=>by
 have ha:([39,111,178,179,152,153,154,87,16,232,210,214,217,142,21,263,266,267,269,272,23,321,324,76,5,49,56,57,68,71,73,130,132,13,176,103,22,37,48,50,51,54,97,104,18,268,323,38,85,86,264,46,52,95,100,20,84,108,145,149,151,257,90,141,150,19,256,140,265,322,212]:List Nat).all (im prog)=true:=by kernel_rfl
 exact ZA.1 ha f (List.mem_of_elem_eq_true h)⟩
theorem ur(l:List (FuncId×List AV×AV))(hl:∀e∈l,eF prog e.1 e.2.1 e.2.2)(k:Nat){f:FuncId}{ys:List AV}{r:AV}(h:pM (eC (tX l) k).call f ys 0=some r):Sx.Pure prog f ys r:=
 Pure.exec (alv l) alI.look (fun _ _ _ _ _ _ _ _ _ _ _ h a b=>ahE h a b) (aiW rfl hl) k h
theorem aaO(l:List UInt8):Lib.bytesOf (l.map fun b=>(b.toNat:Int))=l:=by
 unfold Lib.bytesOf;rw[Yu]
 conv=>rhs;rw[<-List.map_id l]
 exact List.map_congr_left fun b _=>by simp
theorem JM(l:List UInt8)(hl:l≠[])(c:UInt8):Sx.Pure prog 258 [.sl true 1 (l.map dB),.v (.int .u8 c.toNat)] (iv (Lib.indexByte l c)):=by
 refine Pure.wI fun M w0 w j cs hI hR=>?_;obtain⟨v1,vs,rfl,h1,h2⟩:=hR.aZ;obtain⟨v2,rfl,h3⟩:=h2.cR;obtain rfl:=h3.aC;rcases h1.nT with⟨a,_,h0,_⟩|⟨b,off,cap,cs,rfl,hr,h4,h5⟩
 .simp_all
 have hlen:(l.map dB).length=l.length:=Z5 _;refine(Tryz.bytes_IndexByte b off _ cap (l.map fun b=>(b.toNat:Int)) c.toNat w (by simp) (fun i hi=>?_)).mono fun e w' ⟨he,hw⟩=>⟨⟨_,he,?_⟩,by rw[hw];exact Below.refl _ _⟩
 .have h6:=hI.bZ _ _ _ (hr.mem i (by omega));have h7:=hr.rel i hi 0 (by simp[dB]);simp at h7;rw[h6,h7.aC];grind
 .rw[aaO];have:((c.toNat:Int).toNat.toUInt8)=c:=by simp
  rw[this];exact .v _
theorem eF.of{f:FuncId}{ys:List AV}{r r':AV}(h:Sx.Pure prog f ys r)(e:r=r':=by kernel_rfl)(hw:bM r'=some r':=by kernel_rfl):eF prog f ys r':=⟨e ▸ h,hw⟩
def wg:List (FuncId×List AV×AV):=[(258,[.sl true 1 ([2,3,4].map dB),.v (.int .u8 1)],iv (-1)),
 (258,[.sl true 1 ([2,3,4].map dB),.v (.int .u8 2)],iv (0)),
 (258,[.sl true 1 ([2,3,4].map dB),.v (.int .u8 7)],iv (-1)),
 (88,[.sl true 1 [[sv ⟨#[32,110,58,32,105,110,116]⟩]],sv ⟨#[44]⟩],sv ⟨#[32,110,58,32,105,110,116]⟩),
 (88,[.sl true 1 [[sv ⟨#[105,110,116]⟩],[sv ⟨#[]⟩]],sv ⟨#[]⟩],sv ⟨#[105,110,116]⟩),
 (88,[.sl true 1 [[sv ⟨#[116,97,98,108,101,32,99,108,105,99,107,115,32,111,102,32,117,115,101,114,32,123,32,110,58,32,105,110,116,32,125]⟩],[sv ⟨#[59]⟩]],sv ⟨#[]⟩],sv ⟨#[116,97,98,108,101,32,99,108,105,99,107,115,32,111,102,32,117,115,101,114,32,123,32,110,58,32,105,110,116,32,125,59]⟩),
 (88,[.sl true 1 [[sv ⟨#[32]⟩],[sv ⟨#[110]⟩],[sv ⟨#[58,32]⟩],[sv ⟨#[105,110,116]⟩]],sv ⟨#[]⟩],sv ⟨#[32,110,58,32,105,110,116]⟩),
 (88,[.sl true 1 [[sv ⟨#[116,97,98,108,101,32]⟩],[sv ⟨#[99,108,105,99,107,115]⟩],[sv ⟨#[32,111,102,32]⟩],[sv ⟨#[117,115,101,114]⟩],[sv ⟨#[32,123]⟩],[sv ⟨#[32,110,58,32,105,110,116]⟩],[sv ⟨#[32,125]⟩]],sv ⟨#[]⟩],sv ⟨#[116,97,98,108,101,32,99,108,105,99,107,115,32,111,102,32,117,115,101,114,32,123,32,110,58,32,105,110,116,32,125]⟩),
 (197,[sv ⟨#[99,108,105,99,107,115]⟩,sv ⟨#[32]⟩],.v (.bool false)),
 (197,[sv ⟨#[110]⟩,sv ⟨#[32]⟩],.v (.bool false)),
 (197,[sv ⟨#[117,115,101,114]⟩,sv ⟨#[32]⟩],.v (.bool false)),
 (197,[sv ⟨#[32,116,97,98,108,101,32,102,101,97,116,117,114,101,32,111,102,32,107,101,101,112,32,98,111,111,108,32,116,101,120,116,32,107,101,121,32,105,110,116,32,100,101,99,32,105,102,32,116,104,101,110,32,101,108,115,101,32,100,101,102,97,117,108,116,32,111,114,32,97,110,100,32,110,111,116,32,116,114,117,101,32,102,97,108,115,101,32,110,117,108,108,32,99,111,117,110,116,32,115,117,109,32,109,101,97,110,32,109,105,110,32,109,97,120,32,102,105,114,115,116,32,108,97,115,116,32,100,105,115,116,105,110,99,116,32,113,117,97,110,116,105,108,101,32,100,101,99,97,121,32,97,108,108,32,115,108,105,100,105,110,103,32,116,117,109,98,108,105,110,103,32,115,101,115,115,105,111,110,32,119,104,101,114,101,32]⟩,sv ⟨#[32,99,108,105,99,107,115,32]⟩],.v (.bool false)),
 (197,[sv ⟨#[32,116,97,98,108,101,32,102,101,97,116,117,114,101,32,111,102,32,107,101,101,112,32,98,111,111,108,32,116,101,120,116,32,107,101,121,32,105,110,116,32,100,101,99,32,105,102,32,116,104,101,110,32,101,108,115,101,32,100,101,102,97,117,108,116,32,111,114,32,97,110,100,32,110,111,116,32,116,114,117,101,32,102,97,108,115,101,32,110,117,108,108,32,99,111,117,110,116,32,115,117,109,32,109,101,97,110,32,109,105,110,32,109,97,120,32,102,105,114,115,116,32,108,97,115,116,32,100,105,115,116,105,110,99,116,32,113,117,97,110,116,105,108,101,32,100,101,99,97,121,32,97,108,108,32,115,108,105,100,105,110,103,32,116,117,109,98,108,105,110,103,32,115,101,115,115,105,111,110,32,119,104,101,114,101,32]⟩,sv ⟨#[32,110,32]⟩],.v (.bool false)),
 (197,[sv ⟨#[32,116,97,98,108,101,32,102,101,97,116,117,114,101,32,111,102,32,107,101,101,112,32,98,111,111,108,32,116,101,120,116,32,107,101,121,32,105,110,116,32,100,101,99,32,105,102,32,116,104,101,110,32,101,108,115,101,32,100,101,102,97,117,108,116,32,111,114,32,97,110,100,32,110,111,116,32,116,114,117,101,32,102,97,108,115,101,32,110,117,108,108,32,99,111,117,110,116,32,115,117,109,32,109,101,97,110,32,109,105,110,32,109,97,120,32,102,105,114,115,116,32,108,97,115,116,32,100,105,115,116,105,110,99,116,32,113,117,97,110,116,105,108,101,32,100,101,99,97,121,32,97,108,108,32,115,108,105,100,105,110,103,32,116,117,109,98,108,105,110,103,32,115,101,115,115,105,111,110,32,119,104,101,114,101,32]⟩,sv ⟨#[32,117,115,101,114,32]⟩],.v (.bool false))]
theorem Ba:∀e∈wg,eF prog e.1 e.2.1 e.2.2:=by
 unfold wg;simp only[List.forall_mem_cons]
 exact⟨eF.of (JM [2,3,4] (by decide) 1),
  eF.of (JM [2,3,4] (by decide) 2),
  eF.of (JM [2,3,4] (by decide) 7),
  eF.of (A5 [⟨#[32,110,58,32,105,110,116]⟩] ⟨#[44]⟩ true (by decide) (by decide)),
  eF.of (A5 [⟨#[105,110,116]⟩,⟨#[]⟩] ⟨#[]⟩ true (by decide) (by decide)),
  eF.of (A5 [⟨#[116,97,98,108,101,32,99,108,105,99,107,115,32,111,102,32,117,115,101,114,32,123,32,110,58,32,105,110,116,32,125]⟩,⟨#[59]⟩] ⟨#[]⟩ true (by decide) (by decide)),
  eF.of (A5 [⟨#[32]⟩,⟨#[110]⟩,⟨#[58,32]⟩,⟨#[105,110,116]⟩] ⟨#[]⟩ true (by decide) (by decide)),
  eF.of (A5 [⟨#[116,97,98,108,101,32]⟩,⟨#[99,108,105,99,107,115]⟩,⟨#[32,111,102,32]⟩,⟨#[117,115,101,114]⟩,⟨#[32,123]⟩,⟨#[32,110,58,32,105,110,116]⟩,⟨#[32,125]⟩] ⟨#[]⟩ true (by decide) (by decide)),
  eF.of (CP ⟨#[99,108,105,99,107,115]⟩ 32),
  eF.of (CP ⟨#[110]⟩ 32),
  eF.of (CP ⟨#[117,115,101,114]⟩ 32),
  eF.of (CO _ ⟨#[32,99,108,105,99,107,115,32]⟩ (by decide)),
  eF.of (CO _ ⟨#[32,110,32]⟩ (by decide)),
  eF.of (CO _ ⟨#[32,117,115,101,114,32]⟩ (by decide)),fun _ h=>nomatch h⟩
def Fy:ae:=⟨#[116,97,98,108,101,32,99,108,105,99,107,115,32,111,102,32,117,115,101,114,32,123,32,110,58,32,105,110,116,32,125,59]⟩
theorem alx:Sx.Pure prog 39 [.agg tK.cells] (.aG [sv Fy,iv 0]):=ur wg Ba 200 (by kernel_rfl)
end Go.Proofs.YtmemninechdogaaGreatDoor
namespace Go.Proofs.YtmemninechdogaaGreatDoor
open _root_.Go.Proofs.Tryz
open Go.Sx Go.Proofs Go.Tb Go.RowKit
theorem alK:Sx.Pure prog 55 [.agg xT.cells] (.aG [sv Fy,.v (.bool true)]):=by
 have hP:=Su xT;rw[Y7 (by decide)]at hP;refine k55.p fun j=>?_;repeat'((fail_if_success (show WK _ _ _ _ (.eR _ _) _ _ _));(first|exact .nil|refine .k ?_|refine .r1 ?_ ?_|(refine .m1 ?_ ?_;intro b)|fail))
 refine Gs 1 4 5 (bb:=true) (E:=.agg [lN 66,lN 67]) (.inr ⟨rfl,rfl,rfl⟩) (k:=1) rfl rfl rfl rfl rfl rfl rfl rfl fun b9 b6=>?_;repeat'(first|exact .nil|refine .k ?_|refine .r1 ?_ ?_|fail)
 all_goals(simp_all)
 refine w8 (by rfl) rfl rfl (fun _=>hP) ?_ ?_
 .exact .cons (fun _=>rfl) (.cons (fun _=>rfl) .nil)
 repeat'(first|exact .nil|refine .k ?_|(refine .cd ?_ ?_<;>(intro hc;first|exact kt hc (by assumption)|skip))|refine .r1 ?_ ?_|refine .an rfl (by intro ar;exact alx) ?_ ?_|fail)
 all_goals(try simp only[BL]at*)
 .cases hc
 .exact Zw
 .exact absurd rfl (by assumption)
theorem aiP:Sx.Pure prog 17 [sv sN] (.agg xP.cells):=by
 have aW:¬sN=⟨#[115,117,109]⟩:=by decide
 refine Qw.p fun j=>?_;repeat'(first|exact .nil|refine .k ?_|(refine .cd ?_ ?_<;>intro hc)|refine .r1 ?_ ?_|refine .l1 fun b=>?_|refine .an rfl (by intro ar;(refine Lk.wk ?_;(repeat' first|exact .refl _|fail);done)) ?_ ?_|refine .r8 ?_ ?_|fail)
 all_goals(try simp only[BL]at*)
 .grind
 .grind
 .grind
 .exact Zw
def HV:List AV:=[iv 2,sv s0,sv yI,sv s0,iv 0,iv 0,sv s0,NO,iv 0,iv 0,iv 0,NO]
def GZ:List AV:=[iv 2,sv s0,sv s0,NO,iv 0,sv sA,sv sU,iv 2,NO,sv s0,iv 5,sv BB,sv s0,sv sT,iv 0,iv 0,sv s0,NO,iv 0,iv 1,iv 0,NO,iv 0,sv s0]
theorem aiT(j:Store):Sx.Spec prog 17 [sv BB] j fun r af=>∃b,r= .ret (.agg (GZ.set 21 (.ms 8 b 0 2 2)))/\Sx.Sub ((8,b,.cells (HV++ml.row))::j) af:=by
 refine Qw.sc (fun d=>bif Nat.beq d 8 then 2 else 0) ?_;repeat'(first|exact .nil|refine .k ?_|refine .r1 ?_ ?_|refine .l1 fun b=>?_|refine .an rfl (by intro ar;(refine Lk.wk ?_;(repeat' first|exact .refl _|fail);done)) ?_ ?_|fail)
 all_goals(try grind)
 refine VR rfl (by rfl) (by rfl) (by grind) .nil fun b8=>?_;repeat'(first|exact .nil|refine .k ?_|omega|(refine .cd ?_ ?_<;>intro hc)|refine .r1 ?_ ?_|refine .l1 fun b=>?_|refine .r8 ?_ ?_|fail)
 all_goals(try simp only[BL]at*)
 .exact⟨Int.le_refl 0,by decide⟩
 .exact⟨b8,rfl,.cons (.same (.cons (.refl _)))⟩
 grind
theorem aiS:Sx.Pure prog 17 [sv BB] (.agg xQ.cells):=by
 refine⟨fun j M w0 w cs hI hR=>?_⟩;refine(aiT j M w0 w cs hI hR).mono fun e w' ⟨M',r,af,hM,bg,hr,b,e1,e2⟩=>?_;subst e1;obtain⟨M2,oF,gD,hs⟩:=De (K:=12) (c:=2) (rows:=[HV,ml.row]) (bg.sub e2) (fun i h=>by match i,h with|0,_=>rfl|1,_=>rfl) rfl (ZO _) (by unfold maxLen;decide);refine⟨M2,.ret (.agg xQ.cells),j,hM.trans oF,gD,?_,rfl,rfl⟩;cases e with
 |returned v=>
  have hr:R M' (.agg (GZ.set 21 (.ms 8 b 0 2 2))) v:=hr;obtain⟨cs,rfl,h⟩:=hr.qq;have h2:RL M2 (GZ.set 21 (.sl true 12 [HV,ml.row])) cs:=⟨by rw[<-h.1,XB,XB],fun i a c=>by
   have h3:=h.2 i (by rw[XB]at a|-;exact a) c;rw[List.getElem_set]at h3|-;split at h3
   .rename_i h4;rw[Z3 h4,h3.pd];exact hs
   .rename_i h4
    rw[Z9 h4];exact h3.mono oF⟩
  exact R.rM ((sW (by kernel_rfl)).sound h2)
 |_=>exact hr.elim
end Go.Proofs.YtmemninechdogaaGreatDoor
namespace Go.Proofs.YtmemninechdogaaGreatDoor
open _root_.Go.Proofs.Tryz
open Go.Sx Go.Proofs Go.RowKit
abbrev w(n:Int):AV:=.v (.int .u8 n)
def MY:AV:=.agg [w 0,w 0,w 0,w 0,w 0,w 0,w 0,w 0,w 0,w 1,w 1,w 0,w 0,w 1,w 0,w 0,w 0,w 0,w 0,w 0,w 0,w 0,w 0,w 0,w 0,w 0,w 0,w 0,w 0,w 0,w 0,w 0,w 1,w 8,w 5,w 6,w 0,w 0,w 0,w 0,w 7,w 7,w 7,w 7,w 7,w 7,w 0,w 7,w 3,w 3,w 3,w 3,w 3,w 3,w 3,w 3,w 3,w 3,w 7,w 7,w 7,w 7,w 0,w 0,w 7,w 0,w 0,w 0,w 0,w 0,w 0,w 0,w 0,w 0,w 0,w 0,w 0,w 0,w 0,w 0,w 0,w 0,w 0,w 0,w 0,w 0,w 0,w 0,w 0,w 0,w 0,w 7,w 0,w 7,w 7,w 4,w 0,w 2,w 2,w 2,w 2,w 2,w 2,w 2,w 2,w 2,w 2,w 2,w 2,w 2,w 2,w 2,w 2,w 2,w 2,w 2,w 2,w 2,w 2,w 2,w 2,w 2,w 2,w 7,w 0,w 7,w 0,w 0,w 0,w 0,w 0,w 0,w 0,w 0,w 0,w 0,w 0,w 0,w 0,w 0,w 0,w 0,w 0,w 0,w 0,w 0,w 0,w 0,w 0,w 0,w 0,w 0,w 0,w 0,w 0,w 0,w 0,w 0,w 0,w 0,w 0,w 0,w 0,w 0,w 0,w 0,w 0,w 0,w 0,w 0,w 0,w 0,w 0,w 0,w 0,w 0,w 0,w 0,w 0,w 0,w 0,w 0,w 0,w 0,w 0,w 0,w 0,w 0,w 0,w 0,w 0,w 0,w 0,w 0,w 0,w 0,w 0,w 0,w 0,w 0,w 0,w 0,w 0,w 0,w 0,w 0,w 0,w 0,w 0,w 0,w 0,w 0,w 0,w 0,w 0,w 0,w 0,w 0,w 0,w 0,w 0,w 0,w 0,w 0,w 0,w 0,w 0,w 0,w 0,w 0,w 0,w 0,w 0,w 0,w 0,w 0,w 0,w 0,w 0,w 0,w 0,w 0,w 0,w 0,w 0,w 0,w 0,w 0,w 0,w 0,w 0,w 0,w 0,w 0,w 0,w 0]
theorem aa1:Sx.Pure prog 210 [] MY:=ur wg Ba 200 (by kernel_rfl)
theorem uX{l:List (FuncId×List AV×AV)}{f:FuncId}{ys:List AV}{r:AV}(hl:∀e∈l,eF prog e.1 e.2.1 e.2.2)(h:Sx.Pure prog f ys r)(hw:bM r=some r:=by kernel_rfl):∀e∈(f,ys,r)::l,eF prog e.1 e.2.1 e.2.2:=by simp only[List.forall_mem_cons];exact⟨⟨h,hw⟩,hl⟩
def Q5:List (FuncId×List AV×AV):=(210,[],MY)::wg
theorem ahn:∀e∈Q5,eF prog e.1 e.2.1 e.2.2:=uX Ba aa1
def Fa:AV:=.sl true 1 (Fy.data.toList.map dB)
def tok14:AV:=.aG [.sl true 3 [[iv 1,sv ⟨#[116,97,98,108,101]⟩,iv 0],[iv 1,sv sT,iv 6],[iv 1,sv ⟨#[111,102]⟩,iv 13],[iv 1,sv sU,iv 16],[iv 5,sv ⟨#[123]⟩,iv 21],[iv 1,sv yI,iv 23],[iv 5,sv ⟨#[58]⟩,iv 24],[iv 1,sv ⟨#[105,110,116]⟩,iv 26],[iv 5,sv ⟨#[125]⟩,iv 30],[iv 5,sv ⟨#[59]⟩,iv 31],[iv 6,sv s0,iv 32]],NO,iv 0]
theorem alN:Sx.Pure prog 152 [Fa] tok14:=ur Q5 ahn 200 (by kernel_rfl)
def Q6:List (FuncId×List AV×AV):=(152,[Fa],tok14)::wg
theorem aho:∀e∈Q6,eF prog e.1 e.2.1 e.2.2:=uX Ba alN
def Rz:AV:=.aG [.agg [.sl true 4 [[sv sT,sv sU,.sl true 4 [[sv yI,iv 2,NO,sv s0]],iv 0]],NO],NO,iv 0]
theorem ahN:Sx.Pure prog 103 [Fa] Rz:=ur Q6 aho 200 (by kernel_rfl)
def Eh:List (FuncId×List AV×AV):=(103,[Fa],Rz)::(55,[.agg xT.cells],.aG [sv Fy,.v (.bool true)])::wg
theorem JZ:∀e∈Eh,eF prog e.1 e.2.1 e.2.2:=uX (uX Ba alK) ahN
def zI(no tick kind:Int)(x:List AV):AV:=.agg ([iv no,iv tick,iv kind,sv s0,iv 0,iv 0,iv 0,sv s0,sv s0,iv 0,NO,iv 0,sv s0,sv s0,sv s0,iv 0]++x)
def aaN:List AV->List (List AV):=List.map fun x=>[x]
def Cy:AV:=.sl true 1 (aaN [w 2,w 4,w 6,w 2,w 0,w 32,w 116,w 97,w 98,w 108,w 101,w 32,w 99,w 108,w 105,w 99,w 107,w 115,w 32,w 111,w 102,w 32,w 117,w 115,w 101,w 114,w 32,w 123,w 32,w 110,w 58,w 32,w 105,w 110,w 116,w 32,w 125,w 59])
theorem aal:Sx.Pure prog 22 [NO,zI 1 2 3 xT.cells] Cy:=ur Eh JZ 200 (by kernel_rfl)
theorem aam:Sx.Pure prog 22 [NO,zI 0 0 4 (iv 0::BX.cells++F0.cells++[sv s0])] NO:=ur Eh JZ 200 (by kernel_rfl)
def SU:AV:=.aG [zI 1 2 3 (iv 1::[sv sT,sv sU,.sl true 4 [[sv yI,iv 2,NO,sv s0]],iv 0]++[sv s0,sv s0,iv 0,NO,sv s0,iv 0,sv s0,sv s0,sv s0,iv 0,iv 0,sv s0,NO,iv 0,iv 0,iv 0,NO,iv 0]++[sv s0]),iv 38,iv 0]
theorem ai9:Sx.Pure prog 21 [Cy,iv 0] SU:=ur Eh JZ 200 (by kernel_rfl)
def C1(f:aj):Bool:=decide (f.body.size<=1000)&&(decide (f.name.size<=2^60)&&decide (f.body.wt<=2^60))
def MT(c:ay):Bool:=decide (c.tables.length<=10)&&(decide (c.features.length<=10)&&(decide (c.aD.length<=10)&&(decide (c.past.length<=10)&&c.all.all C1)))
theorem NU{f:aj}(h:C1 f=true):FB f:=by unfold C1 at h;simp only[Z6,ZQ]at h;exact⟨h.1,h.2.1,h.2.2⟩
theorem nW{c:ay}{x:dY}{r:ay×Int}(h:cV c x=r)(hc:MT c=true:=by kernel_rfl)(hx:C1 x.feature=true:=by kernel_rfl)(hw:bM (cZ r)=some (cZ r):=by kernel_rfl):eF prog 9 [.agg c.cells,.agg x.cells] (cZ r):=by unfold MT at hc;simp only[Z6,ZQ]at hc;obtain⟨h1,h2,h3,h4,h5⟩:=hc;exact⟨h ▸ Cu Fv EG c x 10 (by decide) ⟨h1,h2,h3,h4,fun f hf=>NU (ZA.1 h5 f hf)⟩ (NU hx),hw⟩
def Hh:List (FuncId×List AV×AV):=[(17,[sv sN],.agg xP.cells),(17,[sv BB],.agg xQ.cells),
 (9,[.agg ga.cells,.agg xT.cells],cZ (pR,0)),
 (9,[.agg pR.cells,.agg xP.cells],cZ (s8,0)),
 (9,[.agg s8.cells,.agg (xN 3).cells],cZ (xk,0)),
 (9,[.agg xk.cells,.agg xQ.cells],cZ (xl,0)),
 (9,[.agg xl.cells,.agg (xN 3).cells],cZ (CQ,0)),
 (9,[.agg CQ.cells,.agg (xN 4).cells],cZ (xl,0)),
 (9,[.agg ga.cells,.agg xP.cells],cZ (ga,4)),
 (9,[.agg s8.cells,.agg xP.cells],cZ (ga,121)),
 (9,[.agg xk.cells,.agg (xN 4).cells],cZ (ga,140)),
 (9,[.agg s8.cells,.agg (xN 5).cells],cZ (pR,0)),
 (9,[.agg pR.cells,.agg xQ.cells],cZ (M7,0)),
 (9,[.agg pR.cells,.agg xT.cells],cZ (ga,121))]
theorem acb:∀e∈Hh,eF prog e.1 e.2.1 e.2.2:=by unfold Hh;simp only[List.forall_mem_cons];exact⟨eF.of aiP,eF.of aiS,nW ap1,nW ap2,nW ap3,nW ap4,nW ap5,nW ap6,nW ap7,nW ap8,nW ap9,nW aag,nW aah,nW aai,fun _ h=>nomatch h⟩
def NH:List (FuncId×List AV×AV):=(22,[NO,zI 1 2 3 xT.cells],Cy)::(22,[NO,zI 0 0 4 (iv 0::BX.cells++F0.cells++[sv s0])],NO)::(21,[Cy,iv 0],SU)::Hh
theorem acd:∀e∈NH,eF prog e.1 e.2.1 e.2.2:=uX (uX (uX acb ai9) aam) aal
theorem acf:Sx.Pure prog 5 [] (.v (.bool true)):=ur NH acd 200 (by kernel_rfl)
