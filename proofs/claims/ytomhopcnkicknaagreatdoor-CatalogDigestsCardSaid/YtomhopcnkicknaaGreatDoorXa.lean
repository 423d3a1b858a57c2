/- What a digest is of: the lines of a valid catalog. -/
import Derived.Test.YtomhopcnkicknaaGreatDoorHa
import Derived.Test.YtomhopcnkicknaaGreatDoorPl
set_option linter.unusedSimpArgs false
set_option linter.unusedVariables false
set_option maxRecDepth 100000
set_option maxHeartbeats 4000000
namespace Go.Proofs.YtomhopcnkicknaaGreatDoor
open Go.Sx Go.Proofs Go.Tb
def dV:List ae→ae
 |[]=>⟨#[]⟩
 |x::l=>x++(⟨#[10]⟩++dV l)
theorem CK:∀ (l r:List ae),dV (l++r)=dV l++dV r
 |[],r=>(pz _).symm
 |x::l,r=>by rw[Ze,dV,dV,CK l r];simp only[eH]
theorem aNA{c:Nat}:∀ {l:List ae},(∀ x∈l,x.size≤c)→(dV l).size≤l.length * (c+1)
 |[],_=>Z1 _
 |x::l,h=>by
  have h1:=h x (by simp)
  have h2:=aNA (l:=l) fun y hy=>h y (by simp[hy])
  simp only[dV,Z8,YT,Nat.one_mul]at *
  ((simp only[Z8,Z5,Z9,Z7,Z4,bz,aV,bU,Z2];omega))
def tT(n:Nat):ae:=if n=0 then⟨#[102]⟩else if n=1 then⟨#[100]⟩else⟨#[112]⟩
def mC(n:Nat)(f:aj):ae:=tT n++(⟨#[32]⟩++(dH f.version++(⟨#[32]⟩++kG f)))
def gj(C:az):List ae:=C.tables.map rU
def oS(C:az)(n:Nat):List ae:=(LL C n).map (mC n)
def fO(C:az):Nat→List ae
 |0=>gj C
 |n+1=>fO C n++oS C n
structure pn(C:az):Prop where
 tl:C.tables.length≤16
 ll:∀ n,(LL C n).length≤32
 t:∀ t∈C.tables,dN t=0
 f:∀ n<3,∀ f∈LL C n,mo f=0∧f.body.size≤64∧1≤f.version∧f.version≤1099511627776
theorem QY:∀ {l:List aP} {p:Option ae},bG p l=0→∀ t∈l,dN t=0
 |u::l,p,h,t,ht=>by
  rw[bG]at h
  split at h
  ·rename_i h1;exact absurd h h1
  rename_i h1
  split at h
  ·cases h
  rcases ZQ.1 ht with rfl|ht
  ·exact Y1.1 h1
  ·exact QY h t ht
theorem ahi{f:aj}(h:dW f=0):mo f=0∧f.body.size≤64∧1≤f.version∧f.version≤1099511627776:=by
 unfold dW at h
 split at h
 ·cases h
 rename_i h1
 split at h
 ·rename_i h2;exact absurd h h2
 rename_i h2
 have h3:mo f=0:=by
  unfold mo
  rw[Z6 (by grind),Z6 h2];exact h
 refine⟨h3,?_,by grind,by grind⟩
 unfold shape at h
 split at h
 ·cases h
 ·omega
theorem RM(n:Nat):∀ {l:List aj} {p:Option ae} {vs:List (ae×Int)},(dy n p l vs).1=0→∀ f∈l,dW f=0
 |g::l,p,vs,h,f,hf=>by
  rw[dy]at h
  split at h
  ·rename_i h1;exact absurd h h1
  rename_i h1
  split at h
  ·cases h
  split at h
  ·cases h
  rcases ZQ.1 hf with rfl|hf
  ·exact Y1.1 h1
  ·exact RM n h f hf
theorem RN{C:az}:∀ (k n:Nat) {vs:List (ae×Int)},pb C k n vs=0→∀ j<k,∀ f∈LL C (n+j),dW f=0
 |k+1,n,vs,h,j,hj,f,hf=>by
  rw[pb]at h
  split at h
  ·rename_i h1;exact absurd h h1
  rename_i h1
  cases j with
  |zero=>exact RM n (Y1.1 h1) f hf
  |succ j=>exact RN k (n+1) h j (by omega) f (by rw[show n+1+j=n+(j+1) by omega];exact hf)
theorem Lj{C:az}(h:iM C=0):pn C:=by
 unfold iM at h
 split at h
 ·cases h
 rename_i h0
 split at h
 ·rename_i h1;exact absurd h h1
 rename_i h1
 split at h
 ·rename_i h2;exact absurd h h2
 rename_i h2
 refine⟨by omega,fun n=> ?_,QY (Y1.1 h1),fun n hn f hf=>ahi (RN 3 0 (Y1.1 h2) n hn f (by rwa [Zl]))⟩
 unfold LL
 split<;>(try split)<;>omega
theorem He{n:Int}(h:1≤n∧n≤1099511627776):(dH n).size≤21:=by
 rw[show dH n=iA n by unfold dH iA;rw[← Lib.itoa_nonneg n.toNat,show((n.toNat:Nat):Int)=n by omega]]
 exact zG (by omega)
theorem af9{C:az}(h:pn C){n:Nat}(hn:n<3){f:aj}(hf:f∈LL C n):(mC n f).size≤60100:=by
 obtain⟨h1,h2,h3⟩:=h.f n hn f hf
 have h4:=E8 (f:=f) (by omega)
 have h5:=He h3
 have h6:(tT n).size=1:=by unfold tT;split;rfl;split<;>rfl
 unfold mC
 ((simp only[Z8,Z5,Z9,Z7,Z4,bz,aV,bU,Z2];omega))
theorem we{C:az}(h:pn C):∀ n≤3,(∀ x∈fO C n,x.size≤60100)∧(fO C n).length≤16+32 * n
 |0,_=>⟨fun x hx=>by obtain⟨t,ht,rfl⟩:=Y9.1 hx;exact ZJ (IP t) (by decide),by have:=h.tl;simpa[fO,gj]using this⟩
 |n+1,hn=>by
  obtain⟨h1,h2⟩:=we h n (by omega)
  have h3:=h.ll n
  refine⟨fun x hx=> ?_,by rw[fO,Z9,oS,Z7];omega⟩
  rcases ZI.1 hx with hx|hx
  ·exact h1 x hx
  ·obtain⟨f,hf,rfl⟩:=Y9.1 hx;exact af9 h (by omega) hf
theorem aga{C:az}(h:pn C){n:Nat}(hn:n<3)(i:Nat):(dV (fO C n++(oS C n).take i)).size≤10000000:=by
 obtain⟨h1,h2⟩:=we h (n+1) (by omega)
 have h3:=aNA (l:=fO C n++(oS C n).take i) fun x hx=>h1 x (by
  rw[fO]
  rcases ZI.1 hx with hx|hx
  ·exact ZK _ hx
  ·exact Zt _ (YZ hx))
 have h4:(fO C n++(oS C n).take i).length≤(fO C (n+1)).length:=by
  rw[fO,Z9,Z9,Z4];omega
 omega
theorem OD{C:az}(h:pn C)(i:Nat):(dV ((gj C).take i)).size≤10000000:=by
 obtain⟨h1,h2⟩:=we h 0 (by omega)
 have h3:=aNA (l:=(gj C).take i) fun x hx=>h1 x (YZ hx)
 have h4:((gj C).take i).length≤16:=by rw[Z4];exact ZJ (Nat.min_le_right _ _) h2
 omega
def iP(C:az):ae:=dV (fO C 3)
end Go.Proofs.YtomhopcnkicknaaGreatDoor
