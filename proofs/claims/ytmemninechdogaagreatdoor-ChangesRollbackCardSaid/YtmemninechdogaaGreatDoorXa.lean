import Derived.Test.YtmemninechdogaaGreatDoorHa
set_option linter.all false
set_option maxRecDepth 100000
set_option maxHeartbeats 4000000
namespace Go.Proofs.YtmemninechdogaaGreatDoor
open Go.Sx Go.Proofs Go.Tb
def am5:List ae->ae
 |[]=>⟨#[]⟩
 |x::l=>x++(⟨#[10]⟩++am5 l)
theorem aoI:∀(l r:List ae),am5 (l++r)=am5 l++am5 r
 |[],r=>(anz _).symm|x::l,r=>by rw[ZB,am5,am5,aoI l r];simp only[anh]
theorem anI{c:Nat}:∀{l:List ae},(∀x∈l,x.size<=c)->(am5 l).size<=l.length*(c+1)
 |[],_=>Z4 _|x::l,h=>by
  have h1:=h x (by simp);have h2:=anI (l:=l) fun y hy=>h y (by simp[hy]);simp only[am5,ZY,YG,Nat.one_mul]at*
  ((simp only[ZY,ZP,Z7,Z5,ZL,Mx,TN,TH,YB];omega))
def anJ(n:Nat):ae:=if n=0 then⟨#[102]⟩else if n=1 then⟨#[100]⟩else⟨#[112]⟩
def anC(n:Nat)(f:aj):ae:=anJ n++(⟨#[32]⟩++(ae1 f.version++(⟨#[32]⟩++ano f)))
def ans(C:ay):List ae:=C.tables.map anM
def anq(C:ay)(n:Nat):List ae:=(LL C n).map (anC n)
def am6(C:ay):Nat->List ae
 |0=>ans C|n+1=>am6 C n++anq C n
structure DOK(C:ay):Prop where
 tl:C.tables.length<=16
 ll:∀n,(LL C n).length<=32
 t:∀t∈C.tables,iD t=0
 f:∀n<3,∀f∈LL C n,anj f=0/\f.body.size<=64/\1<=f.version/\f.version<=1099511627776
theorem ao5:∀{l:List aO} {p:Option ae},bE p l=0->∀t∈l,iD t=0
 |u::l,p,h,t,ht=>by
  rw[bE]at h;split at h
  .grind
  split at h
  .cases h
  rcases ZR.1 ht with rfl|ht
  .grind
  .exact ao5 h t ht
theorem aqN{f:aj}(h:eU f=0):anj f=0/\f.body.size<=64/\1<=f.version/\f.version<=1099511627776:=by
 unfold eU at h;split at h
 .cases h
 split at h
 .grind
 have h3:anj f=0:=by unfold anj;grind
 unfold shape at h;grind
theorem apf(n:Nat):∀{l:List aj} {p:Option ae} {vs:List (ae×Int)},(dG n p l vs).1=0->∀f∈l,eU f=0
 |g::l,p,vs,h,f,hf=>by
  rw[dG]at h;split at h
  .grind
  split at h
  .cases h
  split at h
  .cases h
  rcases ZR.1 hf with rfl|hf
  .grind
  .exact apf n h f hf
theorem aph{C:ay}:∀(k n:Nat) {vs:List (ae×Int)},ane C k n vs=0->∀j<k,∀f∈LL C (n+j),eU f=0
 |k+1,n,vs,h,j,hj,f,hf=>by
  rw[ane]at h;split at h
  .grind
  rename_i h1;cases j with
  |zero=>exact apf n (YF.1 h1) f hf|succ j=>exact aph k (n+1) h j (by omega) f (by grind)
theorem dok{C:ay}(h:iI C=0):DOK C:=by
 unfold iI at h;split at h
 .cases h
 split at h
 .grind
 rename_i h1;split at h
 .grind
 rename_i h2;refine⟨by omega,fun n=>?_,ao5 (YF.1 h1),fun n hn f hf=>aqN (aph 3 0 (YF.1 h2) n hn f (by grind))⟩;unfold LL;grind
theorem aoC{n:Int}(h:1<=n/\n<=1099511627776):(ae1 n).size<=21:=by rw[show ae1 n=A4 n by unfold ae1 A4;rw[<-Lib.itoa_nonneg n.toNat,show((n.toNat:Nat):Int)=n by omega]];exact anW (by omega)
theorem aqE{C:ay}(h:DOK C){n:Nat}(hn:n<3){f:aj}(hf:f∈LL C n):(anC n f).size<=60100:=by
 obtain⟨h1,h2,h3⟩:=h.f n hn f hf;have h4:=aos (f:=f) (by omega);have h5:=aoC h3;have h6:(anJ n).size=1:=by unfold anJ;split;rfl;split<;>rfl
 unfold anC
 ((simp only[ZY,ZP,Z7,Z5,ZL,Mx,TN,TH,YB];omega))
theorem anK{C:ay}(h:DOK C):∀n≤3,(∀x∈am6 C n,x.size<=60100)/\(am6 C n).length<=16+32*n
 |0,_=>⟨fun x hx=>by obtain⟨t,ht,rfl⟩:=Ze.1 hx;exact ZD (ao4 t) (by decide),by have:=h.tl;simpa[am6,ans]using this⟩
 |n+1,hn=>by
  obtain⟨h1,h2⟩:=anK h n (by omega);have h3:=h.ll n;refine⟨fun x hx=>?_,by rw[am6,Z7,anq,Z5];omega⟩;rcases ZI.1 hx with hx|hx
  .grind
  .obtain⟨f,hf,rfl⟩:=Ze.1 hx;exact aqE h (by omega) hf
theorem aqG{C:ay}(h:DOK C){n:Nat}(hn:n<3)(i:Nat):(am5 (am6 C n++(anq C n).take i)).size<=10000000:=by
 obtain⟨h1,h2⟩:=anK h (n+1) (by omega);have h3:=anI (l:=am6 C n++(anq C n).take i) fun x hx=>h1 x (by
  rw[am6]
  grind)
 have h4:(am6 C n++(anq C n).take i).length<=(am6 C (n+1)).length:=by rw[am6,Z7,Z7,ZL];omega
 omega
theorem aqF{C:ay}(h:DOK C)(i:Nat):(am5 ((ans C).take i)).size<=10000000:=by
 obtain⟨h1,h2⟩:=anK h 0 (by omega);have h3:=anI (l:=(ans C).take i) fun x hx=>h1 x (YT hx);have h4:((ans C).take i).length<=16:=by rw[ZL];exact ZD (Nat.min_le_right _ _) h2
 omega
def ank(C:ay):ae:=am5 (am6 C 3)
end Go.Proofs.YtmemninechdogaaGreatDoor
namespace Go.Proofs.YtmemninechdogaaGreatDoor
open Go.Sx Go.Proofs
def leN:List UInt8->Nat
 |[]=>0|b::l=>b.toNat+256*leN l
theorem aoK:∀l:List UInt8,leN l<2^(8*l.length)
 |[]=>by simp[leN]|b::l=>by have:=aoK l;have hb:b.toNat<256:=b.toNat_lt;rw[leN,ZY,show 8*(l.length+1)=8*l.length+8 by omega,Nat.pow_add];omega
theorem aoL:∀(l:List UInt8) (b:UInt8),leN (l++[b])=leN l+b.toNat*2^(8*l.length)
 |[],b=>by simp[leN]|a::l,b=>by have:=aoL l b;rw[ZB,leN,this,leN,ZY,show 8*(l.length+1)=8*l.length+8 by omega,Nat.pow_add];grind
theorem aog{n:Int}(h0:0<=n)(h:n<18446744073709551616):IntKind.u64.wrap n=n:=by have hs:IntKind.u64.signed=false:=rfl;simp only[IntKind.wrap,IntKind.bits,hs];grind
theorem aqM{g x k:Nat}(hg:g<2^(8*k))(hk:k<8)(hx:x<256):
  bits .or .u64 (g:Int) (IntKind.u64.wrap ((x:Int)*2^(8*k)))=((g+x*2^(8*k):Nat):Int):=by
 have hp:2^(8*k)*256<=18446744073709551616:=by rw[show(256:Nat)=2^8 by rfl,<-Nat.pow_add,show(18446744073709551616:Nat)=2^64 by rfl];exact Nat.pow_le_pow_right (by omega) (by omega)
 have hy:x*2^(8*k)+g<18446744073709551616:=by have h1:x*2^(8*k)<=255*2^(8*k):=Y4 _ (by omega);omega
 have hw:IntKind.u64.wrap ((x:Int)*2^(8*k))=((x*2^(8*k):Nat):Int):=by
  have e:(x:Int)*2^(8*k)=((x*2^(8*k):Nat):Int):=by grind
  exact aog (Int.natCast_nonneg _) (by omega)
 rw[hw];have nJ:x*2^(8*k) ||| g=x*2^(8*k)+g:=by have:=Nat.shiftLeft_add_eq_or_of_lt hg x;rw[Nat.shiftLeft_eq]at this;grind
 have hn:((BitVec.ofInt 64 (g:Int)) ||| (BitVec.ofInt 64 ((x*2^(8*k):Nat):Int))).toNat=g+x*2^(8*k):=by rw[BitVec.toNat_or,BitVec.ofInt_natCast,BitVec.ofInt_natCast,BitVec.toNat_ofNat,BitVec.toNat_ofNat,Nat.mod_eq_of_lt (by omega),Nat.mod_eq_of_lt (by omega),Nat.or_comm,nJ];omega
 show IntKind.u64.wrap (((BitVec.ofInt 64 (g:Int)) ||| (BitVec.ofInt 64 ((x*2^(8*k):Nat):Int))).toNat:Int)=_;rw[hn];exact aog (Int.natCast_nonneg _) (by omega)
abbrev uh(n:Int):AV:=.v (.int .u64 n)
def xsI(x n:Int):Int:=bits .xor .u64 x (x / 2^n.toNat)
def aoc(x:Int):Int:=xsI (IntKind.u64.wrap (xsI (IntKind.u64.wrap (xsI x 30*13787848793156543929)) 27*10723151780598845931)) 31
theorem aoN(x:Int):Pure Tryz.prog 94 [uh x] (uh (aoc x)):=by
 refine k94.p fun q=>?_;repeat'(first|exact .nil|refine .k ?_|refine .r1 ?_ ?_|fail)
 all_goals first|decide|exact Sx.Fin.intro Zs rfl
def ao0(h:Int)(g:Nat):Int:=aoc (IntKind.u64.wrap (bits .xor .u64 h g+11400714819323198485))
def hN:Nat->List UInt8->Int->Int
 |0,_,h=>h|n+1,l,h=>hN n (l.drop 8) (ao0 h (leN (l.take 8)))
def an6(l:List UInt8):Int:=aoc (hN ((l.length+7) / 8) l (bits .xor .u64 0 (IntKind.u64.wrap (IntKind.u64.wrap l.length*11400714819323198485))))
theorem apU{l:List UInt8}{i:Nat}(h:8*i<l.length)(x:Int):hN ((l.length+7) / 8-i) (l.drop (8*i)) x=hN ((l.length+7) / 8-(i+1)) (l.drop (8*(i+1))) (ao0 x (leN ((l.drop (8*i)).take 8))):=by rw[show(l.length+7) / 8-i=(l.length+7) / 8-(i+1)+1 by omega,hN,List.drop_drop,Nat.mul_add]
theorem apV{l:List UInt8}{i:Nat}(h:l.length<=8*i)(x:Int):hN ((l.length+7) / 8-i) (l.drop (8*i)) x=x:=by rw[show(l.length+7) / 8-i=0 by omega,hN]
theorem apW(l:List UInt8)(nn:Bool)(hl:l.length<=1000000000):Pure Tryz.prog 43 [uh 0,.sl nn 1 (l.map dB)] (uh (an6 l)):=by
 refine JV.p fun q=>?_;repeat'(first|exact .nil|refine .k ?_|refine .r1 ?_ ?_|(refine .m2 ?_ ?_;intro hlen)|fail)
 all_goals(try simp only[BL]at*)
 unfold an6;refine aP (fun m rg af=>∃(i:Nat) (x:Int),8*i<=l.length+7/\m=l.length+8-8*i/\hN ((l.length+7) / 8) l (bits .xor .u64 0 (IntKind.u64.wrap (IntKind.u64.wrap l.length*11400714819323198485)))=hN ((l.length+7) / 8-i) (l.drop (8*i)) x/\af=q/\rg=[(1,.sl nn 1 ((l.drop (8*i)).map dB)),(4,uh x)]) (l.length+8) rfl ⟨_,_,Zr,Zs,0,_,by omega,rfl,rfl,rfl,rfl⟩ ?_;rintro m _ _ ⟨i,x,hi,hm,hx,rfl,rfl⟩;rw[hx];have hL:(l.drop (8*i)).length=l.length-8*i:=YZ;obtain⟨L,eL⟩:∃L,L=l.drop (8*i):=⟨_,rfl⟩
 rw[<-eL]at hL|-;have hM:(if True then if(L.length:Int)<8 then(L.length:Int)else 8 else if(L.length:Int)>8 then(L.length:Int)else 8)=((L.take 8).length:Int):=by rw[Z3 trivial,ZL];split<;>omega
 have hT:L.take (L.take 8).length=L.take 8:=by rw[ZL,<-List.take_eq_take_min]
 have hD:L.drop (L.take 8).length=l.drop (8*(i+1)):=by
  rcases Nat.le_total 8 L.length with h|h
  .rw[ZL,Ys h,eL,List.drop_drop,Nat.mul_add]
  .rw[XC (by rw[ZL];omega),XC (by omega)]
 rename Store=>q
 repeat'(first|exact .nil|refine .k ?_|(refine .cd ?_ ?_<;>intro hc)|refine .r1 ?_ ?_|(refine .m2 ?_ ?_;intro hlen)|refine .t2 ?_ ?_ ?_|refine .an rfl (by intro ar;exact aoN _) ?_ ?_|fail)
 all_goals(try simp only[BL]at*)
 .rw[hM,ZL];omega
 .rw[hM,Yk,hT];refine aP (fun m rg af=>∃k:Nat,k<=(L.take 8).length/\m=(L.take 8).length-k/\af=q/\rg=[(1,.sl nn 1 (L.map dB)),(4,uh x),(5,iv (L.take 8).length),(6,uh (leN ((L.take 8).take k))),(23,.sl nn 1 ((L.take 8).map dB)),(24,iv (L.take 8).length),(25,iv k)]) (L.take 8).length rfl ⟨_,_,Zr,Zs,0,Z4 _,rfl,rfl,rfl⟩ ?_;rintro m2 _ _ ⟨k,hk,fg,rfl,rfl⟩;have h8:(L.take 8).length<=8:=by rw[ZL];omega
  obtain⟨T,eT⟩:∃T,T=L.take 8:=⟨_,rfl⟩
  rw[<-eT]at hk h8 fg hD|-;have hTL:T.length<=L.length:=by rw[eT,ZL];omega
  have hw:IntKind.i64.wrap (8*(k:Int))=((8*k:Nat):Int):=by rw[bn (by omega)];omega
  repeat'(first|exact .nil|refine .k ?_|(refine .cd ?_ ?_<;>intro hc)|refine .r1 ?_ ?_|refine .t1 ?_ ?_ ?_|refine .t3 ?_ ?_ ?_|refine .an rfl (by intro ar;exact aoN _) ?_ ?_|fail)
  try any_goals(exact Zo)
  all_goals(try simp only[BL]at*)
  all_goals try omega
  .rw[hw];show _/\_<=(64:Int);omega
  .have hkT:k<T.length:=by omega
   refine⟨m2-1,by omega,_,_,Zr,Zs,k+1,by omega,by omega,rfl,?_⟩;have hb:=(T.getD k 0).toNat_lt;have hg:=aoK (T.take k);rw[ZL,Ys hk]at hg;have h1:=aqM hg (k:=k) (by omega) hb;have h2:=aoL (T.take k) (T.getD k 0);rw[ZL,Ys hk]at h2;rw[alH hkT,show T.getD k default=T.getD k 0 from rfl,h2,<-h1,bj hkT (by unfold maxLen;omega),hw,aog (n:=((T.getD k 0).toNat:Int)) (by omega) (by omega)];rfl
  .have hkT:k=T.length:=by omega
   subst hkT;have h0:0<L.length:=by omega
   refine⟨l.length+8-8*(i+1),by omega,_,_,Zr,Zs,i+1,_,by omega,rfl,?_,rfl,by rw[hD]⟩;rw[eL,apU (by omega),<-eL,<-eT,Yb];rfl
 .rw[eL,apV (by omega)];exact Zw
