/- No condition. -/
import Derived.Test.YtindmkcnjlgomaaGreatQ11
set_option linter.unusedSimpArgs false
set_option linter.unusedVariables false
set_option maxRecDepth 100000
set_option maxHeartbeats 4000000
namespace Go.Proofs.YtindmkcnjlgomaaGreat
open Go.RowKit
open Tryz
theorem fK (l:Q_) (k:Nat) (h:k<l.length):l.take (k+1)=l.take k++[nth l k]:=by
 rw [List.take_succ_eq_append_getElem h,dB l k h]
theorem Rd.grown {w p:R8} {row:Option Nat} {A:N_} {xs:R7} (h:Rd w A xs) (hg:w.grownBy p row) (hA:∀a,A=some a->some a.block≠row):Rd p A xs:=λk u v=>by
 obtain ⟨b,o,i,hc⟩:=h k u v;exact ⟨b,o,i,hg.cell hc (show some b≠row from hA _ i)⟩
theorem rH (x:Int):wrap64 (uw x)=wrap64 x:=by unfold wrap64 uw;omega
theorem tU (x y:Int):wrap64 (wrap64 x+y)=wrap64 (x+y):=by unfold wrap64;omega
end Go.Proofs.YtindmkcnjlgomaaGreat
namespace Go.Proofs.YtindmkcnjlgomaaGreat
open Go.RowKit Go.ChangeShapes Go.WideShapes Go.ChangeAt
open Tryz
structure Pw (w:R8) (A:N_) (l:Q_) (c:Nat):Prop where
 hc:l.length<=c
 hm:c<=9223372036854775807
 hl:l.length<=17592186043904
 hr:Rd w A (aA .i64 l)
 hw:W64 l
end Go.Proofs.YtindmkcnjlgomaaGreat
namespace Go.Proofs.YtindmkcnjlgomaaGreat
open Go.RowKit
open Tryz
theorem Ng (a b:Int) (w:R8):Sem.run prog (Instr.field 67 (.agg #[RI a,RI b]) 1) w=.ok (RI b) w:=by kernel_rfl
theorem En (a b:Int) (w:R8):Sem.run prog (Instr.field 67 (.agg #[RI a,RI b]) 0) w=.ok (RI a) w:=by kernel_rfl
theorem qP (A:N_) (sz:Q_) (k c:Nat) (w:R8) (hA:Rd w A (aA .i64 sz)) (B:dm sz) (hk:k+1<sz.length) (hc:sz.length<=c):Calls prog 184 #[.slice A sz.length c,RI k] w λe C=>e=.returned (.agg #[RI (bS sz k:Int),RI (dM sz k:Int)])/\aq w C:=by
 have H:=B.1.2;have R:=B.at (k:=k) ap;have J:=B.at hk;obtain ⟨b,o,rfl,U⟩:=hA.num (show k<sz.length by omega);obtain ⟨_,_,O,p1⟩:=hA.num hk;injection O with O;injection O with e1 e2 _;subst e1;subst e2
 have x:=λC (h:aq w C)=>ke (some (ar b o)) sz (k+1) c C (hA.below h) B ap ap;have hb:=B.bound (k:=k+1) hk;have hm:dM sz k=bS sz k+szN sz (k+1)*szN sz k:=rfl;have y:=fR sz k;simp only [Nat.add_sub_cancel] at x;rw [R.2.2] at U;rw [J.2.2] at p1;obtain ⟨a,ha⟩:∃a,szN sz k=a:=⟨_,rfl⟩;obtain ⟨d,Z⟩:∃d,szN sz (k+1)=d:=⟨_,rfl⟩;obtain ⟨N,Y⟩:∃N,bS sz k=N:=⟨_,rfl⟩;obtain ⟨M,I⟩:∃M,dM sz k=M:=⟨_,rfl⟩;obtain ⟨p,Q⟩:∃p,d*a=p:=⟨_,rfl⟩;obtain ⟨n,hn⟩:∃n,sz.length=n:=⟨_,rfl⟩;rw [ha] at U R hm;rw [Z] at p1 J hm y;rw [Y,I,Q] at hm;rw [I] at y;rw [Y] at x |-;rw [I];rw [hn] at hk hc H |-;have a1:b<w.heap.size:=aB U;have T:=aa x;clear x hA B;have a0:(k:Int)+1<n:=ap;have a7:(k:Int)<n:=ap;have a4:(0:Int)<=(k:Int)+1:=ap;have a6:((k:Int)+1).toNat=k+1:=ap;have a5:((n-1:Nat):Int)=(n:Int)-1:=ap;have a3:¬((n:Int)-1<=k):=ap;have a2:k+1<=c:=ap;have D:(a:Int)*(d:Int)=(p:Int):=by rw [<-Q,Nat.mul_comm];push_cast;rfl
 have u:IntKind.i64.wrap ((a:Int)*(d:Int))=(p:Int):=by rw [D];exact QC _ ap
 have i:IntKind.i64.wrap ((N:Int)+(p:Int))=(M:Int):=by rw [QC _ ap];omega
 obtain ⟨V,L⟩:=ae u i;clear D Q hb R J hm y I Y ha Z hn u i;go_enter func184,ntmps184;go_wp2_with fail;refine (T.o _ ?_).mono ?_
 .exact am
 rintro e C ⟨rfl,m,rfl⟩;have u:=V.o;have i:=L.o;go_wp2_with fail
 go_region
 all_goals clear u i
 all_goals go_wp2_with fail
 all_goals
  refine QM (v:=.agg #[RI N,RI M]) (by simp [results,results184,go_sem]) rfl ⟨rfl,?_⟩;exact am
theorem Az (A:N_) (sz:Q_) (k c:Nat) (w:R8) (hA:Rd w A (aA .i64 sz)) (J:dm sz) (hk:k+1<sz.length) (hc:sz.length<=c):Calls prog 185 #[.slice A sz.length c,RI k] w λe B=>e=.returned (.agg #[RI (dM sz k:Int),RI (bS sz (k+1):Int)])/\aq w B:=by
 have I:=J.1.2;have x:=λB (h:aq w B)=>qP A sz k c B (hA.below h) J hk hc;have u:=λB (h:aq w B)=>ke A sz (k+2) c B (hA.below h) J ap ap;simp only [show k+2-1=k+1 by omega] at u;obtain ⟨b,o,rfl,p0⟩:=hA.num (show k<sz.length by omega);obtain ⟨n,hn⟩:∃n,sz.length=n:=⟨_,rfl⟩;obtain ⟨N,hN⟩:∃N,bS sz (k+1)=N:=⟨_,rfl⟩;obtain ⟨M,Y⟩:∃M,dM sz k=M:=⟨_,rfl⟩;rw [hN] at u |-;have V:bS sz k=bS sz k:=rfl;clear V;rw [Y] at x |-;rw [hn] at x hk hc I |-;obtain ⟨Q,U⟩:=ae x u;clear x u hA J p0 hn hN Y;have a1:¬((n:Int)-1<=k):=ap;have a0:(k:Int)+2<=c:=ap;have a2:(0:Int)<=(k:Int)+2:=ap;have a3:((k:Int)+2).toNat=k+2:=ap;have a4:IntKind.i64.wrap ((k:Int)+2)=(k:Int)+2:=QC _ ap;have a5:=Ng;go_enter func185,ntmps185;go_wp2_with fail;have i:(λ_:R8=>True) (w.alloc (.cells #[RI 0,RI 0] 67)).drew:=trivial;refine HA.g (λ_:R8=>True) ?_;refine HA.t ?_ [0,1,4,5,6,7] i ?_;refine HA.o 2 (λK y=>?_);go_simp;refine (Q.o _ ?_).mono ?_
 .exact am
 rintro e D ⟨rfl,C⟩;have O:aq w D:=(((QA _ w).alloc (Qx _) _).drew).trans (C.mono (by simp));have p:=(C.block w.heap.size (by simp)).trans (Qy w (.cells #[RI 0,RI 0] 67));obtain ⟨⟨k0,k1⟩,kf⟩:=bx2 p;have l1:w.heap.size<D.heap.size:=Qw p;have L:=aa p;clear C p;dsimp only;refine y.out _ _ trivial (λi=>?_);clear y K;refine HA.t ?_ [3] i ?_;refine HA.o 8 (λK y=>?_);go_simp;refine (U.o _ O).mono ?_;rintro e w2 ⟨rfl,m,rfl⟩;dsimp only;refine y.out _ _ trivial (λi=>?_);clear y K;refine HA.t ?_ [9] i ?_;refine HA.o 10 (λK y=>?_);go_simp;refine y.out _ _ trivial (λi=>?_);clear y K;refine HA.d ?_;go_wp2_with fail;have e1:=RG (D.drewN m) w.heap.size 0 _ _ (RI M) L.o;have Z:=RG _ w.heap.size 1 _ _ (RI N) e1;have H:aq w (((D.drewN m).setCell (ar w.heap.size 0) (RI M)).setCell (ar w.heap.size 1) (RI N)):=by exact am
 obtain ⟨T,R⟩:∃T,T=((D.drewN m).setCell (ar w.heap.size 0) (RI M)).setCell (ar w.heap.size 1) (RI N):=⟨_,rfl⟩;rw [<-R] at Z H |-;have e3:T.heap[w.heap.size]?=some (.cells #[RI M,RI N] 67 (0,0)):=Z;obtain ⟨⟨x0,x1⟩,xf⟩:=bx2 e3;exact QM (v:=.agg #[RI M,RI N]) (by simp [results,results185,go_sem,x0,x1]) rfl ⟨rfl,H⟩
theorem Dy (l m:List Itm):cD (l++m)=cD l++cD m:=by simp [cD]
theorem im {S:Nat->Prop} {w i:R8} (hb:aq w i):Ext (aH S w) (aH S i):=bP (Keep.below hb) λ_ _ h=>h
theorem xe (a g:Int) (w:R8):Calls prog 179 #[RI a,RI g] w λe i=>e=.returned (RI (if 0<a then g else 0))/\w=i:=by
 by_cases h:0<a
 .rw [if_pos h];go_enter func179,ntmps179;go_wp2;go_ret;exact ⟨rfl,rfl⟩
 .rw [if_neg h];go_enter func179,ntmps179;go_wp2;go_ret;exact ⟨rfl,rfl⟩
def pb (b:Int) (k:Nat):Int:=if k<=63 then uw b%2^k else b
def rHi (a b:Int) (k:Nat):Int:=uw (a*pb b k/18446744073709551616)
def rLo (a b:Int) (k:Nat):Int:=uw (a*pb b k)
theorem IR (N X:Int):uw (uw N+uw X)=uw (N+X):=by unfold uw;omega
theorem MI (N X:Int) (h:¬uw (uw N+uw X)<uw N):uw (uw (N/18446744073709551616)+uw (X/18446744073709551616))=uw ((N+X)/18446744073709551616):=by unfold uw at *;omega
theorem MH (N X:Int) (h:uw (uw N+uw X)<uw N):uw (uw (uw (N/18446744073709551616)+1)+uw (X/18446744073709551616))=uw ((N+X)/18446744073709551616):=by unfold uw at *;omega
theorem xE (X:Int):uw (18446744073709551615-uw X+1)=uw (-X):=by unfold uw;omega
theorem AU (X:Int) (h:¬uw (-X)=0):18446744073709551615-uw (X/18446744073709551616)=uw (-X/18446744073709551616):=by unfold uw at *;omega
theorem AT (X:Int) (h:uw (-X)=0):uw (18446744073709551615-uw (X/18446744073709551616)+1)=uw (-X/18446744073709551616):=by unfold uw at *;omega
theorem js (x:Int):IntKind.u64.wrap x=uw x:=by rw [IntKind.wrap_u64];rfl
theorem N0 (x:Int) (h:0<=x/\x<18446744073709551616):bits .and .u64 x 1=x%2:=by
 obtain ⟨n,rfl⟩:=Int.eq_ofNat_of_zero_le h.1;have h1:=bits_and_u64_nat n 1 ap ap;have e:n&&& 1=n%2:=Nat.and_one_is_mod n;rw [e] at h1;simpa using h1
theorem tv (x:Int) (h:0<=x/\x<18446744073709551616):bits .xor .u64 (if IntKind.u64.signed=true then -1 else IntKind.u64.max) x=18446744073709551615-x:=by
 obtain ⟨n,rfl⟩:=Int.eq_ofNat_of_zero_le h.1;have hn:n<18446744073709551616:=ap;have h1:bits .xor .u64 (if IntKind.u64.signed=true then -1 else IntKind.u64.max) (n:Int)=IntKind.u64.wrap ((BitVec.ofInt 64 18446744073709551615^^^BitVec.ofInt 64 (n:Int)).toNat:Int):=rfl;have i:BitVec.ofInt 64 18446744073709551615=BitVec.allOnes 64:=by decide
 have o:(BitVec.ofInt 64 (n:Int)).toNat=n:=by rw [BitVec.ofInt_natCast,BitVec.toNat_ofNat];exact Nat.mod_eq_of_lt ap
 rw [h1,i,BitVec.allOnes_xor,BitVec.toNat_not,o,js];unfold uw;omega
theorem KG (m k:Nat) (y:Nat) (i:y<2^k) (o:2^k*m<18446744073709551616) (hk:k<=64):bits .or .u64 ((2^k*m:Nat):Int) (y:Int)=((2^k*m:Nat):Int)+(y:Int):=by
 have h:y<18446744073709551616:=QE i (by have:=Nat.pow_le_pow_right (n:=2) (by decide) hk;simpa using this);rw [bits_or_u64_nat _ _ o h,<-Nat.two_pow_add_eq_or_of_lt i];simp
theorem Gy (k:Nat) (hk:k<=64):(18446744073709551616:Int)=2^(64-k)*2^k:=by rw [<-Int.pow_add,show 64-k+k=64 by omega];rfl
theorem Dd (k:Nat) (hk:k<=64):(18446744073709551616:Nat)=2^(64-k)*2^k:=by rw [<-Nat.pow_add,show 64-k+k=64 by omega]
theorem Od (a:Int) (k:Nat):IntKind.u64.wrap (IntKind.u64.wrap a*2^k)=uw (a*2^k):=by
 rw [js,js];unfold uw;rw [Int.mul_emod,Int.emod_emod_of_dvd _ (Int.dvd_refl _),<-Int.mul_emod]
theorem Ee (a:Int) (k:Nat) (H:0<k) (hk:k<=63) (Q: -9223372036854775808<=a/\a<=9223372036854775807) (S:Int) (J:(S=18446744073709551615/\a<0)\/(S=0/\0<=a)):
  bits .or .u64 (IntKind.u64.wrap (S*2^k)) (IntKind.u64.wrap a/2^(64-k))=uw (a*2^k/18446744073709551616):=by
 obtain ⟨U,p,I⟩:=rI a;have x:=Gy k ap;have i:=Dd k ap;have D:(0:Int)<2^(64-k):=Int.pow_pos (by decide);have o:(0:Int)<2^k:=Int.pow_pos (by decide)
 have B:a*2^k/18446744073709551616=a/2^(64-k):=by
  rw [x];exact Int.mul_ediv_mul_of_pos_left _ _ o
 have hb:U/2^(64-k)<2^k:=by
  rw [Nat.div_lt_iff_lt_mul (Nat.pow_pos (by decide)),Nat.mul_comm];omega
 have A:IntKind.u64.wrap a/2^(64-k)=((U/2^(64-k):Nat):Int):=by rw [js,p];simp
 have L:2^k<=9223372036854775808:=by have:=Nat.pow_le_pow_right (n:=2) (by decide) hk;simpa using this
 have C:0<2^k:=Nat.pow_pos (by decide);rw [B,A];rcases J with ⟨rfl,h⟩ | ⟨rfl,h⟩
 .have hw:IntKind.u64.wrap (18446744073709551615*2^k)=((2^k*(2^(64-k)-1):Nat):Int):=by
   have h1:((2^k*(2^(64-k)-1):Nat):Int)=18446744073709551616-2^k:=by
    have O:2^k*(2^(64-k)-1)+2^k=18446744073709551616:=by
     rw [<-Nat.mul_succ,Nat.succ_eq_add_one,Nat.sub_add_cancel (Nat.pow_pos (by decide)),Nat.mul_comm];exact i.symm
    have N:((2^k:Nat):Int)=2^k:=by simp
    omega
   rw [h1,js];unfold uw;have y:((2^k:Nat):Int)=2^k:=by simp
   omega
  rw [hw,KG _ _ _ hb (by rw [i,Nat.mul_comm];exact Nat.mul_lt_mul_of_pos_right (by have:0<2^(64-k):=Nat.pow_pos (by decide);omega) C) ap,<-hw,js]
  have u:a=(U:Int)+(-(2^k))*2^(64-k):=by
   have:(2:Int)^k*2^(64-k)=18446744073709551616:=by rw [Int.mul_comm];exact x.symm
   rw [Int.neg_mul,this];unfold uw at p;omega
  rw [u,Int.add_mul_ediv_right _ _ ap];have v:((U/2^(64-k):Nat):Int)=(U:Int)/2^(64-k):=by simp
  rw [<-v];have y:(2:Int)^k=((2^k:Nat):Int):=by simp
  rw [y];generalize U/2^(64-k)=Y at *;generalize 2^k=P at *;clear B A hw u v x i D o y p;unfold uw;omega
 .have hw:IntKind.u64.wrap (0*2^k)=((2^k*0:Nat):Int):=by rw [Int.zero_mul];rfl
  rw [hw,KG _ _ _ hb (by simp) ap];have u:a=(U:Int):=by unfold uw at p;omega
  rw [u];have v:((U/2^(64-k):Nat):Int)=(U:Int)/2^(64-k):=by simp
  rw [<-v];generalize U/2^(64-k)=Y at *;generalize 2^k=P at *;clear B A hw u v x i D o p;unfold uw;omega
theorem JD (a:Int) (k:Nat) (hk:k<=0) (h: -9223372036854775808<=a/\a<=9223372036854775807) (S:Int) (i:(S=18446744073709551615/\a<0)\/(S=0/\0<=a)):S=uw (a*2^k/18446744073709551616):=by
 obtain rfl:k=0:=ap;unfold uw;rw [Int.pow_zero,Int.mul_one];omega
theorem My (b:Int) (k:Nat) (hk:k<64):bits .and .u64 (IntKind.u64.wrap b/2^k) 1=uw b/2^k%2:=by
 rw [js];obtain ⟨V,o,i⟩:=rI b;rw [o];have h:(V:Int)/2^k=((V/2^k:Nat):Int):=by simp
 rw [h];have p:=Nat.div_le_self V (2^k);generalize V/2^k=Z at *;exact N0 _ ⟨by omega,by omega⟩
theorem pr (b:Int) (k:Nat) (hk:k<63):pb b (k+1)=pb b k+(uw b/2^k%2)*2^k:=by
 unfold pb;rw [if_pos ap,if_pos ap];obtain ⟨V,i,_⟩:=rI b;rw [i];have h:=Nat.mod_pow_succ (b:=2) (x:=V) (k:=k);have h1:((V%2^(k+1):Nat):Int)=(V:Int)%2^(k+1):=by simp
 rw [<-h1,h];simp [Int.mul_comm]
theorem tD (b:Int) (hb: -9223372036854775808<=b/\b<=9223372036854775807):pb b 64=pb b 63-(uw b/2^63%2)*2^63:=by
 unfold pb;rw [if_neg ap,if_pos ap];unfold uw;omega
theorem PJ (b:Int):pb b 0=0:=by unfold pb;rw [if_pos ap,Int.pow_zero];omega
theorem Ez (b:Int):pb b 64=b:=by unfold pb;rw [if_neg ap]
theorem Ko {a b:Int} {k:Nat} (h:pb b (k+1)=pb b k):rHi a b k=rHi a b (k+1)/\rLo a b k=rLo a b (k+1):=by unfold rHi rLo;rw [h];exact ⟨rfl,rfl⟩
theorem xo {a b X:Int} {k:Nat} (h:a*pb b (k+1)=a*pb b k+X) (o i:Int) (p:o=uw X) (hH:i=uw (X/18446744073709551616)):
  IntKind.u64.wrap (rLo a b k+o)=rLo a b (k+1)/\(rLo a b (k+1)<rLo a b k->IntKind.u64.wrap (IntKind.u64.wrap (rHi a b k+1)+i)=rHi a b (k+1))/\(¬rLo a b (k+1)<rLo a b k->IntKind.u64.wrap (rHi a b k+i)=rHi a b (k+1)):=by
 subst p;subst hH;simp only [js];unfold rHi rLo;rw [h];have e:=IR (a*pb b k) X;refine ⟨e,λhc=>?_,λhc=>?_⟩
 .exact MH _ _ (by rw [e];exact hc)
 .exact MI _ _ (by rw [e];exact hc)
theorem FZ (a b:Int) (w:R8) (J: -9223372036854775808<=a/\a<=9223372036854775807) (hb: -9223372036854775808<=b/\b<=9223372036854775807):Calls prog 181 #[RI a,RI b] w λe w'=>e=.returned (.tuple #[RI (fC a b),.int .u64 (iC a b)])/\w=w':=by
 by_cases hs:a<0
 .have D:rHi a b 0=0/\rLo a b 0=0:=by unfold rHi rLo;rw [PJ,Int.mul_zero];exact ⟨rfl,rfl⟩
  have I:=aa D;clear D;go_enter func181,ntmps181;go_wp2_with fail
  go_loop [6,7,9] (λh l i=>∃k:Nat,k<=64/\i=RI k/\h=.int .u64 (rHi a b k)/\l=.int .u64 (rLo a b k)) (λ_ _ i=>64-(intOf i).toNat)
  .exact ⟨0,by omega,rfl,by rw [I.o.1],by rw [I.o.2]⟩
  case round=>
   obtain ⟨k,hk,rfl,rfl,rfl⟩:=hrel;have y:=aa hs;clear hs;by_cases L:k<64
   .have p:=My b k L;obtain ⟨t,x⟩:∃t,uw b/2^k%2=t:=⟨_,rfl⟩;have N:t=0\/t=1:=ap;rw [x] at p;rcases N with U | h1
    .subst U
     have C:pb b (k+1)=pb b k:=by
      rcases QO k 63 with h | h
      .rw [pr b k h,x];omega
      .obtain rfl:k=63:=ap;rw [tD b hb,x];omega
     have a0:(bits .and .u64 (IntKind.u64.wrap b/2^k) 1==0)=true:=by rw [p];rfl
     have hr:=Ko (a:=a) C;have O:=aa hr;clear hr C x p;go_wp2_with fail;go_round
     .exact ⟨k+1,by omega,by go_num,by rw [O.o.1],by rw [O.o.2]⟩
     .simp [intOf];omega
    .subst h1;have a1:(bits .and .u64 (IntKind.u64.wrap b/2^k) 1==0)=false:=by rw [p];rfl
     have e1:=Od a k;rcases (show k<=0\/(0<k/\k<63)\/63<=k by omega) with h | ⟨h,Y⟩ | h
     .have hr:=xo (a:=a) (b:=b) (k:=k) (X:=a*2^k) (by rw [pr b k ap,x,Int.mul_add,Int.one_mul]) (uw (a*2^k)) (18446744073709551615) rfl (JD a k h J _ (.inl ⟨rfl,y.o⟩));have H:((k:Int)==63)=false:=by simp;omega
      clear x p;obtain ⟨g1,u,v⟩:=hr;by_cases hc:rLo a b (k+1)<rLo a b k
      .have A:=u hc;clear u v;go_wp2_with fail;go_round
       .exact ⟨k+1,by omega,by go_num,rfl,rfl⟩
       .simp [intOf];omega
      .have A:=v hc;clear u v;go_wp2_with fail;go_round
       .exact ⟨k+1,by omega,by go_num,rfl,rfl⟩
       .simp [intOf];omega
     .have Q:=Ee a k h ap J (18446744073709551615) (.inl ⟨rfl,y.o⟩);have hr:=xo (a:=a) (b:=b) (k:=k) (X:=a*2^k) (by rw [pr b k Y,x,Int.mul_add,Int.one_mul]) (uw (a*2^k)) (uw (a*2^k/18446744073709551616)) rfl rfl;have H:((k:Int)==63)=false:=by simp;omega
      clear x p;obtain ⟨g1,u,v⟩:=hr;by_cases hc:rLo a b (k+1)<rLo a b k
      .have A:=u hc;clear u v;go_wp2_with fail;go_round
       .exact ⟨k+1,by omega,by go_num,rfl,rfl⟩
       .simp [intOf];omega
      .have A:=v hc;clear u v;go_wp2_with fail;go_round
       .exact ⟨k+1,by omega,by go_num,rfl,rfl⟩
       .simp [intOf];omega
     .have Q:=Ee a k ap ap J (18446744073709551615) (.inl ⟨rfl,y.o⟩);have e3:=tv (uw (a*2^k)) (sL _);have e4:=tv (uw (a*2^k/18446744073709551616)) (sL _);have e5:IntKind.u64.wrap (18446744073709551615-uw (a*2^k)+1)=uw (-(a*2^k)):=by rw [js];exact xE _
      have H:((k:Int)==63)=true:=by simp;omega
      have hr:=xo (a:=a) (b:=b) (k:=k) (X:= -(a*2^k)) (by obtain rfl:k=63:=ap;rw [tD b hb,x,Int.mul_sub,Int.one_mul];omega) (uw (-(a*2^k))) (uw (-(a*2^k)/18446744073709551616)) rfl rfl;clear x p;by_cases B:uw (-(a*2^k))=0
      .have Z:IntKind.u64.wrap (18446744073709551615-uw (a*2^k/18446744073709551616)+1)=uw (-(a*2^k)/18446744073709551616):=by rw [js];exact AT _ B
       have T:(uw (-(a*2^k))==0)=true:=by rw [B];rfl
       clear B;obtain ⟨g1,u,v⟩:=hr;by_cases hc:rLo a b (k+1)<rLo a b k
       .have A:=u hc;clear u v;go_wp2_with fail;go_round
        .exact ⟨k+1,by omega,by go_num,rfl,rfl⟩
        .simp [intOf];omega
       .have A:=v hc;clear u v;go_wp2_with fail;go_round
        .exact ⟨k+1,by omega,by go_num,rfl,rfl⟩
        .simp [intOf];omega
      .have Z:18446744073709551615-uw (a*2^k/18446744073709551616)=uw (-(a*2^k)/18446744073709551616):=AU _ B;have T:(uw (-(a*2^k))==0)=false:=by simpa using B
       clear B;obtain ⟨g1,u,v⟩:=hr;by_cases hc:rLo a b (k+1)<rLo a b k
       .have A:=u hc;clear u v;go_wp2_with fail;go_round
        .exact ⟨k+1,by omega,by go_num,rfl,rfl⟩
        .simp [intOf];omega
       .have A:=v hc;clear u v;go_wp2_with fail;go_round
        .exact ⟨k+1,by omega,by go_num,rfl,rfl⟩
        .simp [intOf];omega
   .obtain rfl:k=64:=ap
    have R:wrap64 (rHi a b 64)=fC a b:=by
     unfold rHi;rw [Ez,rH];exact oJ (jN J hb).1 (jN J hb).2
    have hl:rLo a b 64=iC a b:=by unfold rLo iC;rw [Ez]
    obtain ⟨V,Hl⟩:=ae R hl;clear R hl;rw [show (((64:Nat):Int))=64 from rfl];go_wp2_with fail;go_ret2;exact ⟨by rw [V.o,Hl.o];rfl,rfl⟩
 .have D:rHi a b 0=0/\rLo a b 0=0:=by unfold rHi rLo;rw [PJ,Int.mul_zero];exact ⟨rfl,rfl⟩
  have I:=aa D;clear D;go_enter func181,ntmps181;go_wp2_with fail
  go_loop [6,7,9] (λh l i=>∃k:Nat,k<=64/\i=RI k/\h=.int .u64 (rHi a b k)/\l=.int .u64 (rLo a b k)) (λ_ _ i=>64-(intOf i).toNat)
  .exact ⟨0,by omega,rfl,by rw [I.o.1],by rw [I.o.2]⟩
  case round=>
   obtain ⟨k,hk,rfl,rfl,rfl⟩:=hrel;have y:=aa hs;clear hs;by_cases L:k<64
   .have p:=My b k L;obtain ⟨t,x⟩:∃t,uw b/2^k%2=t:=⟨_,rfl⟩;have N:t=0\/t=1:=ap;rw [x] at p;rcases N with U | h1
    .subst U
     have C:pb b (k+1)=pb b k:=by
      rcases QO k 63 with h | h
      .rw [pr b k h,x];omega
      .obtain rfl:k=63:=ap;rw [tD b hb,x];omega
     have a0:(bits .and .u64 (IntKind.u64.wrap b/2^k) 1==0)=true:=by rw [p];rfl
     have hr:=Ko (a:=a) C;have O:=aa hr;clear hr C x p;go_wp2_with fail;go_round
     .exact ⟨k+1,by omega,by go_num,by rw [O.o.1],by rw [O.o.2]⟩
     .simp [intOf];omega
    .subst h1;have a1:(bits .and .u64 (IntKind.u64.wrap b/2^k) 1==0)=false:=by rw [p];rfl
     have e1:=Od a k;rcases (show k<=0\/(0<k/\k<63)\/63<=k by omega) with h | ⟨h,Y⟩ | h
     .have hr:=xo (a:=a) (b:=b) (k:=k) (X:=a*2^k) (by rw [pr b k ap,x,Int.mul_add,Int.one_mul]) (uw (a*2^k)) (0) rfl (JD a k h J _ (.inr ⟨rfl,by have:=y.o;omega⟩));simp only [Int.add_zero] at hr;have H:((k:Int)==63)=false:=by simp;omega
      clear x p;obtain ⟨g1,u,v⟩:=hr;by_cases hc:rLo a b (k+1)<rLo a b k
      .have A:=u hc;clear u v;go_wp2_with fail;go_round
       .exact ⟨k+1,by omega,by go_num,rfl,rfl⟩
       .simp [intOf];omega
      .have A:=v hc;clear u v;go_wp2_with fail;go_round
       .exact ⟨k+1,by omega,by go_num,rfl,rfl⟩
       .simp [intOf];omega
     .have Q:=Ee a k h ap J (0) (.inr ⟨rfl,by have:=y.o;omega⟩);rw [Int.zero_mul,show IntKind.u64.wrap 0=0 from rfl] at Q;have hr:=xo (a:=a) (b:=b) (k:=k) (X:=a*2^k) (by rw [pr b k Y,x,Int.mul_add,Int.one_mul]) (uw (a*2^k)) (uw (a*2^k/18446744073709551616)) rfl rfl;have H:((k:Int)==63)=false:=by simp;omega
      clear x p;obtain ⟨g1,u,v⟩:=hr;by_cases hc:rLo a b (k+1)<rLo a b k
      .have A:=u hc;clear u v;go_wp2_with fail;go_round
       .exact ⟨k+1,by omega,by go_num,rfl,rfl⟩
       .simp [intOf];omega
      .have A:=v hc;clear u v;go_wp2_with fail;go_round
       .exact ⟨k+1,by omega,by go_num,rfl,rfl⟩
       .simp [intOf];omega
     .have Q:=Ee a k ap ap J (0) (.inr ⟨rfl,by have:=y.o;omega⟩);rw [Int.zero_mul,show IntKind.u64.wrap 0=0 from rfl] at Q;have e3:=tv (uw (a*2^k)) (sL _);have e4:=tv (uw (a*2^k/18446744073709551616)) (sL _);have e5:IntKind.u64.wrap (18446744073709551615-uw (a*2^k)+1)=uw (-(a*2^k)):=by rw [js];exact xE _
      have H:((k:Int)==63)=true:=by simp;omega
      have hr:=xo (a:=a) (b:=b) (k:=k) (X:= -(a*2^k)) (by obtain rfl:k=63:=ap;rw [tD b hb,x,Int.mul_sub,Int.one_mul];omega) (uw (-(a*2^k))) (uw (-(a*2^k)/18446744073709551616)) rfl rfl;clear x p;by_cases B:uw (-(a*2^k))=0
      .have Z:IntKind.u64.wrap (18446744073709551615-uw (a*2^k/18446744073709551616)+1)=uw (-(a*2^k)/18446744073709551616):=by rw [js];exact AT _ B
       have T:(uw (-(a*2^k))==0)=true:=by rw [B];rfl
       clear B;obtain ⟨g1,u,v⟩:=hr;by_cases hc:rLo a b (k+1)<rLo a b k
       .have A:=u hc;clear u v;go_wp2_with fail;go_round
        .exact ⟨k+1,by omega,by go_num,rfl,rfl⟩
        .simp [intOf];omega
       .have A:=v hc;clear u v;go_wp2_with fail;go_round
        .exact ⟨k+1,by omega,by go_num,rfl,rfl⟩
        .simp [intOf];omega
      .have Z:18446744073709551615-uw (a*2^k/18446744073709551616)=uw (-(a*2^k)/18446744073709551616):=AU _ B;have T:(uw (-(a*2^k))==0)=false:=by simpa using B
       clear B;obtain ⟨g1,u,v⟩:=hr;by_cases hc:rLo a b (k+1)<rLo a b k
       .have A:=u hc;clear u v;go_wp2_with fail;go_round
        .exact ⟨k+1,by omega,by go_num,rfl,rfl⟩
        .simp [intOf];omega
       .have A:=v hc;clear u v;go_wp2_with fail;go_round
        .exact ⟨k+1,by omega,by go_num,rfl,rfl⟩
        .simp [intOf];omega
   .obtain rfl:k=64:=ap
    have R:wrap64 (rHi a b 64)=fC a b:=by
     unfold rHi;rw [Ez,rH];exact oJ (jN J hb).1 (jN J hb).2
    have hl:rLo a b 64=iC a b:=by unfold rLo iC;rw [Ez]
    obtain ⟨V,Hl⟩:=ae R hl;clear R hl;rw [show (((64:Nat):Int))=64 from rfl];go_wp2_with fail;go_ret2;exact ⟨by rw [V.o,Hl.o];rfl,rfl⟩
def sHi (N:Int) (k:Nat):Int:=N/2^k/18446744073709551616
def sLo (N:Int) (k:Nat):Int:=uw (N/2^k)
theorem xV (N:Int) (k:Nat):N/2^(k+1)=N/2^k/2:=by
 rw [Int.pow_succ,<-Int.ediv_ediv_of_nonneg];exact Int.le_of_lt (Int.pow_pos (by decide))
theorem zS (N:Int) (k:Nat):sHi N (k+1)=sHi N k/2:=by unfold sHi;rw [xV];omega
theorem GO (x y:Int):bits .or .u64 x y=bits .or .u64 y x:=by
 show IntKind.u64.wrap ((BitVec.ofInt 64 x||| BitVec.ofInt 64 y).toNat:Int)=IntKind.u64.wrap ((BitVec.ofInt 64 y||| BitVec.ofInt 64 x).toNat:Int)
 rw [BitVec.or_comm]
theorem JN (N:Int) (k:Nat):bits .or .u64 (sLo N k/2) (IntKind.u64.wrap (IntKind.u64.wrap (sHi N k)*9223372036854775808))=sLo N (k+1):=by
 have h:=zN (sHi N k) (sLo N k) 1 ap (sL _);rw [GO];simp only [Int.pow_one,show (64-1:Nat)=63 from rfl,show (2:Int)^63=9223372036854775808 from rfl] at h;rw [h];unfold sLo sHi;rw [xV];unfold uw;omega
theorem Oz (N:Int) (k:Nat) (h: -170141183460469231731687303715884105728<=N/\N<=170141183460469231731687303715884105727): -9223372036854775808<=sHi N k/\sHi N k<=9223372036854775807:=by
 induction k with
 | zero=>unfold sHi;rw [Int.pow_zero];omega
 | succ k ih=>rw [zS];omega
theorem CH (N:Int) (q:Nat) (w:R8) (H:q<=62) (u: -170141183460469231731687303715884105728<=N/\N<=170141183460469231731687303715884105727):Calls prog 182 #[RI (N/18446744073709551616),.int .u64 (uw N),RI q] w λe A=>e=.returned (RI (wrap64 (N/2^q)))/\w=A:=by
 have p:N/18446744073709551616=sHi N 0/\uw N=sLo N 0:=by unfold sHi sLo;rw [Int.pow_zero,Int.ediv_one];exact ⟨rfl,rfl⟩
 rw [p.1,p.2];have B:=aa u;clear p u;go_enter func182,ntmps182;go_wp2_with fail
 go_loop [0,1,7] (λh l i=>∃k:Nat,k<=q/\i=RI k/\h=RI (sHi N k)/\l=.int .u64 (sLo N k)) (λ_ _ i=>q-(intOf i).toNat)
 .exact ⟨0,QB _,rfl,rfl,rfl⟩
 case round=>
  obtain ⟨k,hk,rfl,rfl,rfl⟩:=hrel;have hb:=Oz N k B.o;by_cases y:k<q
  .have D:=JN N k;have v:=zS N k;have C:=aa v;clear v;go_wp2_with fail;go_round
   .exact ⟨k+1,by omega,by go_num,by rw [C.o],rfl⟩
   .simp [intOf];omega
  .obtain rfl:k=q:=ap;have he:wrap64 (sLo N k)=wrap64 (N/2^k):=by unfold sLo;exact rH _
   have x:=aa he;clear he;go_wp2_with fail;go_ret;exact ⟨by rw [<-x.o];rfl,rfl⟩
theorem uv (a b q:Int) (w:R8) (u: -9223372036854775808<=a/\a<=9223372036854775807) (hb: -9223372036854775808<=b/\b<=9223372036854775807):Calls prog 174 #[RI a,RI b,RI q] w λe i=>e=.returned (RI (fO a b q))/\w=i:=by
 by_cases h1:q<0
 .have h:fO a b q=0:=by unfold fO;rw [if_pos (.inl h1)]
  rw [h];clear h;go_enter func174,ntmps174;go_wp2_with fail;go_ret;exact ⟨rfl,rfl⟩
 .by_cases v:62<q
  .have h:fO a b q=0:=by unfold fO;rw [if_pos (.inr v)]
   rw [h];clear h;go_enter func174,ntmps174;go_wp2_with fail;go_ret;exact ⟨rfl,rfl⟩
  .obtain ⟨Q,rfl⟩:=Int.eq_ofNat_of_zero_le (show 0<=q by omega);have h:fO a b Q=wrap64 (a*b/2^Q):=by unfold fO;rw [if_neg ap];simp
   rw [h];have hm:=KW u hb;have p:=FZ a b w u hb;have hs:=λi=>CH (a*b) Q i ap ap;obtain ⟨y,x⟩:=ae p hs;clear p hs h hm;go_enter func174,ntmps174;go_wp2_with fail;refine y.o.mono ?_;rintro e A ⟨rfl,rfl⟩;go_wp2_with fail;refine (x.o _).mono ?_;rintro e B ⟨rfl,rfl⟩;go_wp2_with fail;go_ret;exact ⟨rfl,rfl⟩
structure vU (w:R8) (As Ap:N_) (sz ps:Q_) (cs:Nat):Prop where
 hA:Rd w As (aA .i64 sz)
 hP:Rd w Ap (aA .i64 ps)
 hg:dY sz
 hl:ps.length=bS sz (sz.length-1)
 hc:sz.length<=cs
 wp:W64 ps
theorem vU.below {w i:R8} {o u:N_} {sz ps:Q_} {p:Nat} (h:vU w o u sz ps p) (hb:aq w i):vU i o u sz ps p:=⟨h.hA.below hb,h.hP.below hb,h.hg,h.hl,h.hc,h.wp⟩
theorem oV (i u:N_) (n m p cp:Nat) (q:Int) (w:R8) (hn:1<=n/\n<=1000):Calls prog 172 #[.agg #[.slice i n p,.slice u m cp,RI q]] w λe o=>e=.returned (RI ((n-1:Nat):Int))/\aq w o:=by
 obtain ⟨h1,v⟩:=hn;have hw:IntKind.i64.wrap ((n:Int)-1)=((n-1:Nat):Int):=by rw [QC _ ap];omega
 have h:(n:Int)-1=((n-1:Nat):Int):=ap;rw [h] at hw;go_enter func172,ntmps172;go_wp2;go_ret;refine ⟨by first | rfl | (rw [h];rfl),?_⟩;exact am
theorem sR (Z Ap:N_) (sz ps:Q_) (C cp k r c:Nat) (q:Int) (w:R8) (h:vU w Z Ap sz ps C) (hk:k+1<sz.length) (hr:r<szN sz (k+1)) (hc:c<szN sz k):Calls prog 180 #[.agg #[.slice Z sz.length C,.slice Ap ps.length cp,RI q],RI k,RI r,RI c] w λe u=>e=.returned (RI (nth ps (bS sz k+r*szN sz k+c)))/\aq w u:=by
 have T:=h.hg.1;have L:=T.1.2;have z0:=T.at (k:=k) ap;have O:=h.hg.mul hk
 have i:bS sz k+r*szN sz k+c<ps.length:=by
  have h1:=fR sz k;have h2:=gr sz (show k+1<=sz.length-1 by omega)
  have h3:r*szN sz k+szN sz k<=szN sz (k+1)*szN sz k:=by
   have:=RH (szN sz k) (show r+1<=szN sz (k+1) by omega)
   rwa [Ry] at this
  have h4:=h.hl;unfold dM at h1;omega
 have x:=λu (hb:aq w u)=>qP Z sz k C u (h.hA.below hb) T hk h.hc;have V:ps.length<=1048576:=by rw [h.hl];exact h.hg.2
 obtain ⟨b,o,rfl,R⟩:=h.hA.num (show k<sz.length by omega);obtain ⟨D,J,rfl,H⟩:=h.hP.num i;have A:r*szN sz k<=szN sz (k+1)*szN sz k:=RH _ ap;rw [z0.2.2] at R;obtain ⟨a,ha⟩:∃a,szN sz k=a:=⟨_,rfl⟩;obtain ⟨N,hN⟩:∃N,bS sz k=N:=⟨_,rfl⟩;obtain ⟨n,hn⟩:∃n,sz.length=n:=⟨_,rfl⟩;obtain ⟨m,hm⟩:∃m,ps.length=m:=⟨_,rfl⟩;rw [ha] at R H i hc A z0 |-;rw [hN] at H i x |-;rw [hn] at x hk L |-;rw [hm] at i V |-;obtain ⟨ra,B⟩:∃ra,r*a=ra:=⟨_,rfl⟩;rw [B] at H i A |-;have U:b<w.heap.size:=aB R;have Q:D<w.heap.size:=aB H;have I:(r:Int)*(a:Int)=(ra:Int):=by rw [<-B];push_cast;rfl
 have Y:=aa x;clear x h T O A z0 hn hm hN ha B hr;have a7:IntKind.i64.wrap ((r:Int)*(a:Int))=(ra:Int):=by rw [I];exact QC _ ap
 have a3:IntKind.i64.wrap ((N:Int)+(ra:Int))=(N:Int)+ra:=QC _ ap;have a2:IntKind.i64.wrap ((N:Int)+(ra:Int)+(c:Int))=(N:Int)+ra+c:=QC _ ap;have a1:(0:Int)<=(N:Int)+ra+c:=ap;have a5:(N:Int)+ra+c<m:=ap;have a8:((N:Int)+ra+c).toNat=N+ra+c:=ap;have a6:(k:Int)<n:=ap;have a4:k<n:=ap;have a9:=En;clear I;go_enter func180,ntmps180;go_wp2_with fail
 go_region_held3 (λu=>u.cell? ⟨w.heap.size,0,none⟩=some (.slice (some ⟨b,o,none⟩) n C)/\u.cell? ⟨w.heap.size,1,none⟩=some (.slice (some ⟨D,J,none⟩) m cp)/\u.cell? ⟨b,o+k,none⟩=some (RI a)/\u.cell? ⟨D,J+(N+ra+c),none⟩=some (RI (nth ps (N+ra+c)))) (simp [go_sem,World.cell?_alloc_past, *])
  ((go_at_call 184;refine (Y.o _ ?_).mono ?_;(focus (exact am;done));rintro e w1 ⟨rfl,y⟩;have v:aq w w1:=Below.trans (by exact am) (y.mono (by simp));have g0:=aw y (Qz _ w.heap.size 0 _ _ _ (Qy w (.cells #[.slice (some ⟨b,o,none⟩) n C,.slice (some ⟨D,J,none⟩) m cp,RI q] 269)));have g1:=aw y (Qz _ w.heap.size 1 _ _ _ (Qy w (.cells #[.slice (some ⟨b,o,none⟩) n C,.slice (some ⟨D,J,none⟩) m cp,RI q] 269)));have g2:=(v.cell (p:=⟨b,o+k,none⟩) U).trans R;have g3:=(v.cell (p:=⟨D,J+(N+ra+c),none⟩) Q).trans H;have a0:=aa v;clear y v))
 go_wp2_with fail;go_ret;exact ⟨rfl,a0.o⟩
theorem Gt (L T:N_) (sz ps:Q_) (A cp k r:Nat) (q:Int) (w:R8) (h:vU w L T sz ps A) (hk:k+1<sz.length) (hr:r<szN sz (k+1)):Calls prog 183 #[.agg #[.slice L sz.length A,.slice T ps.length cp,RI q],RI k,RI r] w λe v=>e=.returned (RI (nth ps (dM sz k+r)))/\aq w v:=by
 have O:=h.hg.1;have D:=O.1.2
 have y:dM sz k+r<ps.length:=by
  have h1:=fR sz k;have h2:=gr sz (show k+1<=sz.length-1 by omega);have h4:=h.hl;omega
 have i:=λv (hb:aq w v)=>Az L sz k A v (h.hA.below hb) O hk h.hc;have J:ps.length<=1048576:=by rw [h.hl];exact h.hg.2
 obtain ⟨b,o,rfl,p0⟩:=h.hA.num (show k<sz.length by omega);obtain ⟨B,C,rfl,I⟩:=h.hP.num y;obtain ⟨M,R⟩:∃M,dM sz k=M:=⟨_,rfl⟩;obtain ⟨n,hn⟩:∃n,sz.length=n:=⟨_,rfl⟩;obtain ⟨m,hm⟩:∃m,ps.length=m:=⟨_,rfl⟩;rw [R] at I y i |-;rw [hn] at i hk D |-;rw [hm] at y J |-;have H:B<w.heap.size:=aB I;have Q:=aa i;clear i h O hn hm R hr p0;have Y:IntKind.i64.wrap ((M:Int)+(r:Int))=(M:Int)+r:=QC _ ap;have U:(0:Int)<=(M:Int)+r:=ap;have Z:(M:Int)+r<m:=ap;have a0:((M:Int)+r).toNat=M+r:=ap;have a1:=En;go_enter func183,ntmps183;go_wp2_with fail
 go_region_held3 (λv=>v.cell? ⟨w.heap.size,0,none⟩=some (.slice (some ⟨b,o,none⟩) n A)/\v.cell? ⟨w.heap.size,1,none⟩=some (.slice (some ⟨B,C,none⟩) m cp)/\v.cell? ⟨B,C+(M+r),none⟩=some (RI (nth ps (M+r)))) (simp [go_sem,World.cell?_alloc_past, *])
  ((go_at_call 185;refine (Q.o _ ?_).mono ?_;(focus (exact am;done));rintro e V ⟨rfl,u⟩;have x:aq w V:=Below.trans (by exact am) (u.mono (by simp));have g0:=aw u (Qz _ w.heap.size 0 _ _ _ (Qy w (.cells #[.slice (some ⟨b,o,none⟩) n A,.slice (some ⟨B,C,none⟩) m cp,RI q] 269)));have g1:=aw u (Qz _ w.heap.size 1 _ _ _ (Qy w (.cells #[.slice (some ⟨b,o,none⟩) n A,.slice (some ⟨B,C,none⟩) m cp,RI q] 269)));have g3:=(x.cell (p:=⟨B,C+(M+r),none⟩) H).trans I;have N:=aa x;clear u x))
 go_wp2_with fail;go_ret;exact ⟨rfl,N.o⟩
def tj (sz ps:Q_) (q:Int) (k r:Nat) (v:Q_):Nat->Int
 | 0=>nth ps (dM sz k+r)
 | c+1=>wrap64 (tj sz ps q k r v c+fO (nth ps (bS sz k+r*szN sz k+c)) (nth v c) q)
theorem JW (L H:N_) (sz ps:Q_) (J cp k r:Nat) (q:Int) (V:N_) (v:Q_) (cv:Nat) (w:R8) (h:vU w L H sz ps J) (hk:k+1<sz.length) (hr:r<szN sz (k+1)) (hV:Rd w V (aA .i64 v)) (hv:v.length=szN sz k) (wv:W64 v):Calls prog 178 #[.agg #[.slice L sz.length J,.slice H ps.length cp,RI q],RI k,RI r,.slice V v.length cv] w λe A=>e=.returned (RI (tj sz ps q k r v v.length))/\aq w A:=by
 have I:=λA (hb:aq w A)=>Gt L H sz ps J cp k r q A (h.below hb) hk hr;have B:=λc (hc:c<szN sz k) A (hb:aq w A)=>sR L H sz ps J cp k r c q A (h.below hb) hk hr hc;have a2:v.length<=1048576:=by rw [hv];exact (h.hg.1.at (k:=k) ap).2.1
 obtain ⟨n,hn⟩:∃n,sz.length=n:=⟨_,rfl⟩;obtain ⟨m,hm⟩:∃m,ps.length=m:=⟨_,rfl⟩;obtain ⟨x,hx⟩:∃x,v.length=x:=⟨_,rfl⟩;rw [hn,hm] at I B |-;rw [hx] at a2 |-;obtain ⟨a9,a4,HV,Hv,Hx,WV,WP⟩:=aj I B hV hv hx wv h.wp;clear I B hV hv hx wv h hn hm hr hk;go_enter func178,ntmps178;go_wp2_with fail;refine (a9.o _ ?_).mono ?_
 .exact am
 rintro e w1 ⟨rfl,N⟩;have u:=(N.block w.heap.size (by simp)).trans (Qy w (.cells #[.slice L n J,.slice H m cp,RI q] 269));have Q:aq w w1:=((QA _ w).alloc (Qx _) _).trans (N.mono (by simp));obtain ⟨D,a7⟩:=ae u Q;clear N u Q;go_wp2_with fail
 go_loopw [9,10] (λs i wr=>∃c:Nat,c<=x/\i=RI c/\s=RI (tj sz ps q k r v c)/\wr.heap[w.heap.size]?=some (.cells #[.slice L n J,.slice H m cp,RI q] 269 (0,0))/\aq w wr) (λ_ i _=>x-(intOf i).toNat)
 .exact ⟨0,QB _,rfl,rfl,D.o,a7.o⟩
 case round=>
  obtain ⟨c,hc,rfl,rfl,u,O⟩:=hrel;by_cases a1:c<x
  .obtain ⟨bv,ov,rfl,pv⟩:=HV.o.num (show c<v.length by rw [Hx.o];exact a1);have a3:bv<w.heap.size:=aB pv;have a6:=(O.cell (p:=⟨bv,ov+c,none⟩) a3).trans pv;obtain ⟨⟨x0,x1,x2⟩,xf⟩:=bx3 u;have R:=Qw u;have ab:bv<wr.heap.size:=by have:=O.size;omega
   have B:=a4.o c (by have:=Hv.o;have:=Hx.o;omega);have T:=λA=>uv (nth ps (bS sz k+r*szN sz k+c)) (nth v c) q A (WP.o.nth _) (WV.o.nth _);obtain ⟨a8,a0,U,D⟩:=ag B T O u;clear B T O u pv;have ad:(c:Int)<x:=ap;go_wp2_with fail
   go_region_held3 (λA=>A.cell? ⟨w.heap.size,0,none⟩=some (.slice L n J)/\A.cell? ⟨w.heap.size,1,none⟩=some (.slice H m cp)/\A.cell? ⟨w.heap.size,2,none⟩=some (RI q)/\A.cell? ⟨bv,ov+c,none⟩=some (RI (nth v c))) (simp [go_sem, *])
    ((first | (go_at_call 180;refine (a8.o wr.drew U.o.drew).mono ?_;rintro e w3 ⟨rfl,y⟩;have g0:=aw y x0;have g1:=aw y x1;have g2:=aw y x2;have g3:=aw y a6;have C:=(y.block w.heap.size R).trans D.o;have Z:=U.o.trans (((QA wr.heap.size wr).drew.trans y).mono U.o.size);obtain ⟨Y,a5⟩:=ae C Z;clear y C Z) | (go_at_call 174;refine (a0.o _).mono ?_;rintro e w4 ⟨rfl,rfl⟩)))
   go_wp2_with fail;go_roundw
   .exact ⟨c+1,by omega,by go_num,by rw [IntKind.wrap_i64,tj,wrap64],Y.o,a5.o⟩
   .simp [intOf];omega
  .obtain rfl:c=x:=ap;have U:=aa O;clear O u;go_wp2_with fail;go_ret;exact ⟨rfl,U.o⟩
theorem OQ {sz ps:Q_} {k r:Nat} (h:r<szN sz (k+1)):nth (bL sz ps k) r=nth ps (dM sz k+r):=bJ _ h
theorem KS {sz ps:Q_} {k r c:Nat} (hr:r<szN sz (k+1)) (hc:c<szN sz k):nth (wL sz ps k) (r*szN sz k+c)=nth ps (bS sz k+r*szN sz k+c):=by
 unfold wL;rw [bJ _ (by have:=RH (szN sz k) (show r+1<=szN sz (k+1) by omega);rw [Ry] at this;omega),Rz]
theorem M6 {sz ps:Q_} {q:Int} {k r:Nat} {v:Q_} (wp:W64 ps) (hr:r<szN sz (k+1)):∀c,c<=szN sz k->tj sz ps q k r v c=wrap64 (DN (nT (wL sz ps k) (szN sz k) r) v q c+nth (bL sz ps k) r):=by
 intro c
 induction c with
 | zero=>
  intro _;have h:=wp.nth (dM sz k+r);rw [tj,DN,OQ hr,Int.zero_add,oJ h.1 h.2]
 | succ c ih=>
  intro hc;rw [tj,DN,ih ap,show nth (nT (wL sz ps k) (szN sz k) r) c=nth (wL sz ps k) (r*szN sz k+c) from bJ _ ap,KS hr ap,tU,tU]
  congr 1
  omega
theorem M5 {sz ps:Q_} {q:Int} {k r:Nat} {v:Q_} (wp:W64 ps) (hr:r<szN sz (k+1)) (h:v.length=szN sz k):tj sz ps q k r v v.length=nth (zL sz ps q k v) r:=by
 rw [h,M6 wp hr _ (Qx _)];unfold zL eU;rw [bJ _ (by rw [AX];exact hr)];unfold Ia;rw [bJ _ hr];unfold wt;rw [jm]
theorem Jb {sz ps:Q_} {q:Int} {x:Q_} {k r:Nat} (wp:W64 ps) (h:x.length=szN sz 0) (hr:r<szN sz (k+1)):
  nth (dI sz ps q x (k+1)) r=if k+1<sz.length-1 then (if 0<tj sz ps q k r (dI sz ps q x k) (dI sz ps q x k).length then tj sz ps q k r (dI sz ps q x k) (dI sz ps q x k).length else 0) else tj sz ps q k r (dI sz ps q x k) (dI sz ps q x k).length:=by
 rw [M5 wp hr (fG h k)];rw [dI]
 split
 .unfold xj;rw [bJ _ (by rw [ym];exact hr)]
  split
  .omega
  .omega
 .rfl
def vB (sz ps:Q_) (q:Int) (k c:Nat) (e:Q_):Nat->Int
 | 0=>0
 | r+1=>wrap64 (vB sz ps q k c e r+fO (nth ps (bS sz k+r*szN sz k+c)) (nth e r) q)
theorem mr {α:Type} (f:α->Nat->α) (a:α) (n:Nat):(List.range (n+1)).foldl f a=f ((List.range n).foldl f a) n:=by rw [Rx,List.foldl_append];rfl
theorem PT {ms:Q_} {c:Nat} {ys:Q_} {q:Int} (r:Nat):((List.range r).foldl (pU ms c ys q) (List.replicate c 0)).length=c:=by
 induction r with
 | zero=>simp
 | succ r ih=>rw [mr,ye,ih]
theorem L7 {sz ps:Q_} {q:Int} {k c:Nat} {e:Q_} (hc:c<szN sz k):∀r,r<=szN sz (k+1)->vB sz ps q k c e r=nth ((List.range r).foldl (pU (wL sz ps k) (szN sz k) e q) (List.replicate (szN sz k) 0)) c:=by
 intro r
 induction r with
 | zero=>
  intro _;rw [vB,List.range_zero,List.foldl_nil,dB _ _ (by simpa using hc)];simp
 | succ r ih=>
  intro hr;rw [vB,ih ap,mr];unfold pU eU;rw [bJ _ (by have:=PT (ms:=wL sz ps k) (c:=szN sz k) (ys:=e) (q:=q) r;unfold pU eU at this;omega)]
  congr 2
  unfold rJ;rw [bJ _ (by rw [jm];exact hc),show nth (nT (wL sz ps k) (szN sz k) r) c=nth (wL sz ps k) (r*szN sz k+c) from bJ _ hc,KS ap hc]
theorem Ma {sz ps:Q_} {q:Int} {x y:Q_} {j c:Nat} (h:x.length=szN sz 0) (i:j+2<=sz.length) (hc:c<szN sz (sz.length-2-j)):
  nth (gF sz ps q x y (j+1)) c=if 0<nth (dI sz ps q x (sz.length-2-j)) c then vB sz ps q (sz.length-2-j) c (gF sz ps q x y j) (gF sz ps q x y j).length else 0:=by
 have hl:(gF sz ps q x y j).length=szN sz (sz.length-2-j+1):=by rw [mw h,show sz.length-1-j=sz.length-2-j+1 by omega]
 rw [hl,L7 hc _ (Qx _)];rw [gF];unfold Bw;rw [bJ _ (by rw [sB];exact hc)];unfold pT;rw [show sz.length-1-j=sz.length-2-j+1 by omega]
theorem LT:dN prog 58 26 (RJ) 1 24:=⟨underlying58,info_parts (by kernel_rfl),rfl,by decide⟩
def N8 (sz ps:Q_) (q:Int) (x:Q_) (X:N_) (p n₀:Nat) (o:Obj) (k:Nat) (v:Value) (u w:R8):Prop:=
 ∃A c vals,v=.slice A (k+1) c/\w.ownsRow n₀ 26 1 (.slice A (k+1) c) (k+1) vals/\vals[0]?=some (.slice X (szN sz 0) p)/\
  (∀j,1<=j->j<=k->∃i h,vals[j]?=some (.slice i (szN sz j) h)/\w.ownsRow n₀ 2 1 (.slice i (szN sz j) h) (szN sz j) (aA .i64 (dI sz ps q x j)))/\w.heap[n₀]?=some o/\Below n₀ u w
theorem CE (As Ap X:N_) (sz ps x:Q_) (cs cp cx:Nat) (q:Int) (w:R8) (h:vU w As Ap sz ps cs) (hX:Rd w X (aA .i64 x)) (hx:x.length=szN sz 0) (wx:W64 x) (bl:x.length<=cx):Calls prog 170 #[.agg #[.slice As sz.length cs,.slice Ap ps.length cp,RI q],.slice X x.length cx] w λe B=>∃A' c' vals,e=.returned (.slice A' sz.length c')/\Rd B A' vals/\jx B vals sz.length (dI sz ps q x)/\sz.length<=c'/\aq w B:=by
 have hg:=h.hg;have cf:=hg.1.1;have b8:=λk r V v cv B (hb:aq w B) (hk:k+1<sz.length) (hr:r<szN sz (k+1)) (hV:Rd B V (aA .i64 v)) (hv:v.length=szN sz k) (wv:W64 v)=>JW As Ap sz ps cs cp k r q V v cv B (h.below hb) hk hr hV hv wv;have av:=λB=>oV As Ap sz.length ps.length cs cp q B ap;obtain ⟨b,o,rfl,c6⟩:=h.hA.num (show 0<sz.length by omega);have dc:b<w.heap.size:=aB c6;have bs:=h.hA;have cn:=h.wp;obtain ⟨m,hm⟩:∃m,ps.length=m:=⟨_,rfl⟩;obtain ⟨n,hn⟩:∃n,sz.length-1=n:=⟨_,rfl⟩;obtain ⟨L,hL⟩:∃L,sz.length=L:=⟨_,rfl⟩;obtain ⟨x0,ad⟩:∃x0,x.length=x0:=⟨_,rfl⟩;rw [hL] at hn;rw [hL,hm] at b8 av;rw [hn] at av;rw [hL] at cf |-;rw [hm,ad];rw [ad] at bl;have bO:L=n+1:=ap;obtain ⟨da,bh,HG,d4,WP,HX,Hx,WX⟩:=ak b8 av hg bs cn hX hx wx;obtain ⟨HL,cw,b6,Hn⟩:=ag hL ad bO hn;clear b8 av hg bs cn hX hx wx hL ad h c6 hm bO hn;go_enter func170,ntmps170;go_wp2_with fail
 go_loopw [5,6] (λv i wr=>∃k:Nat,k<=n/\i=RI k/\N8 sz ps q x X cx w.heap.size (.cells #[.slice (some (ar b o)) L cs,.slice Ap m cp,RI q] 269 (0,0)) k v w wr) (λ_ i _=>n-(intOf i).toNat)
 case atStart=>
  refine ⟨0,QB _,rfl,some (ar (w.heap.size+1) 0),1,[.slice X x0 cx],rfl,?_,?_,λj h1 h2=>ap,?_,?_⟩
  .have:=xz (w.alloc (.cells #[.slice (some (ar b o)) L cs,.slice Ap m cp,RI q] 269)) 26 (.slice X x0 cx) w.heap.size (by simp);simpa using this
  .rw [<-Hx.o,cw.o];rfl
  .exact (QL _ _ _ (by simp)).trans (Qy w _)
  .exact am
 case round=>
  obtain ⟨wq,rfl⟩:∃wq:R8,wq=wr:=⟨_,rfl⟩;obtain ⟨k,hk,rfl,Ao,co,vals,rfl,ho,cL,hv,A,hW⟩:=hrel;obtain ⟨⟨y0,y1,y2⟩,yf⟩:=bx3 A;have a0:=Qw A;have hz:=hW.size;obtain ⟨Ho,be,Hv,bM,HW⟩:=ah ho cL hv A hW;clear ho cL hv A hW;by_cases e5:k<n
  .have hR:=HG.o.1;have ci:k+1<sz.length:=by have:=b6.o;have:=HL.o;omega
   have z1:=hR.at ci;have e4:=hR.1.2;have p1:=(d4.o.num ci);obtain ⟨_,_,e',p1⟩:=p1;injection e' with e';injection e' with e1 e2 _;subst e1;subst e2
   have b7:=(HW.o.cell (p:=⟨b,o+(k+1),none⟩) dc).trans p1;rw [z1.2.2] at b7;obtain ⟨go,e0,cd,eb,_⟩:=Ho.o.form ap;simp only [Rv] at cd;obtain ⟨rfl,d3,rfl⟩:=cd;clear d3
   have cI:∃Ak ck,vals[k]?=some (.slice Ak (szN sz k) ck)/\Rd wq Ak (aA .i64 (dI sz ps q x k)):=by
    rcases Nat.eq_zero_or_pos k with rfl | a2
    .exact ⟨X,cx,be.o,HX.o.below HW.o⟩
    .obtain ⟨Aj,cj,h1,h2⟩:=Hv.o k a2 (Qx _);exact ⟨Aj,cj,h1,Rd.own h2⟩
   obtain ⟨Ak,ck,c8,bn⟩:=cI;obtain ⟨_,_,ek,pk⟩:=(Rd.own Ho.o) k _ c8;injection ek with ek;injection ek with i1 i2 _;subst i1;subst i2
   rw [RB] at pk;have Z:=fG (sz:=sz) (ps:=ps) (q:=q) Hx.o k;have ds:=qH (sz:=sz) (ps:=ps) (q:=q) WX.o k;have y:=λr (hr:r<szN sz (k+1))=>Jb (sz:=sz) (ps:=ps) (q:=q) (x:=x) (k:=k) (r:=r) WP.o Hx.o hr;have bX:=HL.o;have I:=λr (hr:r<szN sz (k+1)) B (hb:aq wq B)=>da.o k r Ak (dI sz ps q x k) ck B (HW.o.trans (hb.mono HW.o.size)) ap hr (bn.below hb) Z ds;rw [Z] at I y;rw [bX] at y;rw [Hn.o] at y;obtain ⟨r1,b3⟩:∃r1,szN sz (k+1)=r1:=⟨_,rfl⟩;obtain ⟨c0,b9⟩:∃c0,szN sz k=c0:=⟨_,rfl⟩;have bi:=fG (sz:=sz) (ps:=ps) (q:=q) Hx.o (k+1);rw [b3] at I y b7 z1 bi;rw [b9] at I y pk;obtain ⟨dd,d0,bG,ea,bw⟩:=ah I y b3 b9 bi;clear I y b3 b9 c8 bn Z p1 bi bX;have e6:(k:Int)+1<L:=by have:=b6.o;omega
   have b2:IntKind.i64.wrap ((k:Int)+1)=(k:Int)+1:=QC _ ap;have dk:=aa b2;clear b2;go_wp2_with fail;refine (bh.o wq).mono ?_;rintro e w3 ⟨rfl,U⟩;have y0:=aw U y0;have pk:=aw U pk;have bV:go<w3.heap.size:=aB pk;have cY:w.heap.size<w3.heap.size:=aB y0;have T:=aa U;clear U;go_wp2_with fail
   go_loopw [7,8] (λv i wx=>∃r:Nat,r<=r1/\i=RI r/\wx.ownsRow w3.heap.size 2 1 v r (aA .i64 ((dI sz ps q x (k+1)).take r))/\aq w3 wx) (λ_ i _=>r1-(intOf i).toNat)
   .exact ⟨0,QB _,rfl,QI _ _ _ _,QA _ _⟩
   case round=>
    obtain ⟨wo,rfl⟩:∃wo:R8,wo=wr:=⟨_,rfl⟩;obtain ⟨r,hr,rfl,ab,A⟩:=hrel;obtain ⟨Al,cl,rfl,dp⟩:=aD ab;have J:aq wq wo:=T.o.trans (A.mono T.o.size);have x0:=(A.cell (p:=(ar w.heap.size 0)) cY).trans y0;have x1:=(J.cell (p:=(ar w.heap.size 1)) a0).trans y1;have x2:=(J.cell (p:=(ar w.heap.size 2)) a0).trans y2;have e8:=(J.cell (p:=⟨b,o+(k+1),none⟩) (show b<_ by omega)).trans b7;have b5:=(A.cell (p:=(ar go k)) bV).trans pk;have d6:w.heap.size<wo.heap.size:=aB x0;have dw:go<wo.heap.size:=aB b5;have d5:w3.heap.size<=wo.heap.size:=A.size;obtain ⟨b1,bo,C⟩:=af ab A J;clear ab A J dp;have b2:=dk.o;have dv:(0:Int)<=(k:Int)+1:=ap;have dG:((k:Int)+1).toNat=k+1:=ap;by_cases b4:r<r1
    .have I:=dd.o r b4;have cb:=aa I;clear I;go_wp2_with fail;have d1:k<k+1:=Nat.lt_succ_self k;have cA:(k:Int)<(k:Int)+1:=ap;have R:(λB:R8=>B.cell? (ar w.heap.size 0)=some (.slice (some (ar b o)) L cs)/\B.cell? (ar w.heap.size 1)=some (.slice Ap m cp)/\B.cell? (ar w.heap.size 2)=some (RI q)/\B.cell? (ar go k)=some (.slice Ak c0 ck)) wo.drew:=⟨x0,x1,x2,b5⟩;refine HA.g (λB:R8=>B.cell? (ar w.heap.size 0)=some (.slice (some (ar b o)) L cs)/\B.cell? (ar w.heap.size 1)=some (.slice Ap m cp)/\B.cell? (ar w.heap.size 2)=some (RI q)/\B.cell? (ar go k)=some (.slice Ak c0 ck)) ?_;refine HA.t ?_ [0,1,2,3,4,5,6] R ?_;refine HA.o 7 (λK hK=>?_);go_simp;refine (cb.o _ C.o.drew).mono ?_;rintro e w5 ⟨rfl,H⟩;have bA:=QF (aw H x0) (QF (aw H x1) (QF (aw H x2) (aw H b5)));have g0:=aw H x0;have aM:=bo.o.trans (((QA wo.heap.size wo).drew.trans H).mono d5);have a8:=az b1.o ((QA wo.heap.size wo).drew.trans H);have d8:=H.size;simp only [Ru] at d8;obtain ⟨aR,bb⟩:=ae aM a8;clear H aM a8 R d1 cA;dsimp only;refine hK.out _ _ bA (λR=>?_);clear hK K bA;refine HA.t ?_ [8] R ?_;refine HA.d ?_;have g1:=R.2.1;have g2:=R.2.2.1;clear R;go_wp2_with fail;refine (bh.o _).mono ?_;rintro e w6 ⟨rfl,ao⟩;have y:=d0.o r b4;have a5:=aR.o.trans (ao.mono aR.o.size);have a1:=az bb.o ao;have e7:=ao.size;have dT:=a5.size;obtain ⟨aP,a9⟩:=ae a5 a1;clear ao a5 a1 g0 g1 g2 x0 x1 x2;have bv:r<(dI sz ps q x (k+1)).length:=by rw [bw.o];exact b4
     have cr:=fK _ r bv;have c9:=aa cr;clear cr bv;by_cases D:k+1<n
     .have cO:((k:Int)+1<n):=ap;have bz:decide ((k:Int)+1<n)=true:=RC ap;rw [if_pos D] at y;have a6:=aa y;clear y D;go_wp2_with fail;refine (xe _ _ _).mono ?_;rintro e w7 ⟨rfl,rfl⟩;rw [<-a6.o];go_wp2_with (at_builtin;refine aX lF w6 rfl (.tmp 44) (.tmp 46) rfl w3.heap.size (.slice Al r cl) r _ rfl a9.o [RI (nth (dI sz ps q x (k+1)) r)] rfl rfl (by simp [Value.oneCell']) ap (by unfold maxLen;omega) ap ?_);intro g7 c7 w7 N Q Y;have O:=aP.o.trans Q;obtain ⟨a4,a7⟩:=ae N O;clear N Q Y O;go_wp2_with fail;go_roundw
      .exact ⟨r+1,by omega,by go_num,by rw [c9.o,db];exact a4.o,a7.o⟩
      .simp [intOf];omega
     .have cO:¬((k:Int)+1<n):=ap;have bz:decide ((k:Int)+1<n)=false:=RD ap;rw [if_neg D] at y;have a6:=aa y;clear y D;go_wp2_with (at_builtin;refine aX lF w6 rfl (.tmp 44) (.tmp 46) rfl w3.heap.size (.slice Al r cl) r _ rfl a9.o [RI (tj sz ps q k r (dI sz ps q x k) c0)] rfl rfl (by simp [Value.oneCell']) ap (by unfold maxLen;omega) ap ?_);rw [<-a6.o];intro g7 c7 w7 N Q Y;have O:=aP.o.trans Q;obtain ⟨a4,a7⟩:=ae N O;clear N Q Y O;go_wp2_with fail;go_roundw
      .exact ⟨r+1,by omega,by go_num,by rw [c9.o,db];exact a4.o,a7.o⟩
      .simp [intOf];omega
    .obtain rfl:r=r1:=ap;have bI:=az Ho.o C.o;have bf:=aa bI;clear bI;go_wp2_with (at_builtin;refine aX LT wo rfl (.tmp 48) (.tmp 50) rfl w.heap.size (.slice (some (ar go 0)) (k+1) co) (k+1) vals rfl bf.o [.slice Al r cl] rfl rfl (by simp [Value.oneCell']) ap (by unfold maxLen;omega) ap ?_);intro g7 c7 w7 N Q Y;have Z:=Ho.o.1
     have a3:∀{mm:Nat} {u:Value} {ys:R7} {b0:Nat},wo.ownsRow b0 2 1 u mm ys->w7.ownsRow b0 2 1 u mm ys:=λh=>h.kept Y (by
      rename_i u _ _
      cases hu:u.ownBlock with
      | none=>exact .inl rfl
      | some i=>exact .inr λe9=>jP bf.o h (by decide) i e9.symm hu)
     have aG:=(Y.block _ d6 (ay ((C.o.block _ a0).trans bM.o) (by decide) bf.o)).trans ((C.o.block _ a0).trans bM.o);have O:=(HW.o.trans (C.o.mono HW.o.size)).trans Q;obtain ⟨a4,a7,df⟩:=af N O aG;clear N Q Y O aG;go_wp2_with fail;go_roundw
     case rel=>
      refine ⟨k+1,by omega,by go_num,some (ar g7 0),c7,vals++[.slice Al r cl],rfl,a4.o,?_,λj h1 h2=>?_,df.o,a7.o⟩
      .rw [Rk ap];exact be.o
      .rcases QO j (k+1) with d7 | d7
       .obtain ⟨Aj,cj,e1,e2⟩:=Hv.o j h1 ap;exact ⟨Aj,cj,by rw [Rk ap];exact e1,a3 (az e2 C.o)⟩
       .obtain rfl:j=k+1:=ap;refine ⟨Al,cl,?_,?_⟩
        .rw [Rl ap,bG.o];simp [show vals.length=k+1 by omega]
        .have:=a3 b1.o;rw [List.take_of_length_le (by rw [bw.o];exact Qx _)] at this;rw [bG.o];exact aF this (by have:=T.o.size;omega)
     case measure=>simp [intOf];omega
  .obtain rfl:k=n:=ap;have cM:=b6.o
   have cc:jx wq vals sz.length (dI sz ps q x):=by
    refine ⟨?_,λj hj=>?_⟩
    .have:=Ho.o.1;have:=HL.o;omega
    .have Z:=fG (sz:=sz) (ps:=ps) (q:=q) Hx.o j;rcases Nat.eq_zero_or_pos j with rfl | a2
     .refine ⟨X,cx,?_,?_,HX.o.below HW.o⟩
      .rw [Z];exact be.o
      .show x.length<=cx
       rw [cw.o];exact bl
     .obtain ⟨Aj,cj,h1,h2⟩:=Hv.o j a2 (by have:=HL.o;omega);obtain ⟨A',c',e,hc⟩:=aD h2;injection e with e1 e2 e3
      subst e1;subst e3;rw [Z];exact ⟨_,_,h1,hc,Rd.own h2⟩
   have cy:L<=co:=by
    obtain ⟨A',c',e,hc⟩:=aD Ho.o;injection e with e1 e2 e3
    omega
   have bN:=Rd.own Ho.o;obtain ⟨d2,d9,dn,dr⟩:=ag bN cc cy cM;clear bN cc cy cM;go_wp2_with fail;refine (bh.o wq).mono ?_;rintro e w3 ⟨rfl,U⟩;have T:=aa U;clear U;go_wp2_with fail;go_ret;refine ⟨Ao,co,vals,by rw [dr.o];rfl,d2.o.below T.o,?_,dn.o,HW.o.trans (T.o.mono HW.o.size)⟩;have:=d9.o.below T.o
   rwa [HL.o] at this
def jG (l:Q_) (n e:Nat):List (Q_):=(List.range e).map λk=>gC l n (k*(n-1))
theorem sX (l:Q_) (n e:Nat):(jG l n e).length=e:=by simp [jG]
theorem uM (l:Q_) (n:Nat) {e k:Nat} (h:k<e):(jG l n e)[k]?=some (gC l n (k*(n-1))):=by simp [jG,h]
def plV (l:List Pl):R7:=l.flatMap λp=>[RI (p.1:Int),RI (p.2.1:Int),RI p.2.2]
theorem uE (a b:List Pl):plV (a++b)=plV a++plV b:=by simp [plV,List.flatMap_append]
theorem Ev (p:Pl):plV [p]=[RI (p.1:Int),RI (p.2.1:Int),RI p.2.2]:=rfl
theorem OH:∀(l:List Pl) (i:Nat) (p:Pl),l[i]?=some p->(plV l)[i*3]?=some (RI (p.1:Int))/\(plV l)[i*3+1]?=some (RI (p.2.1:Int))/\(plV l)[i*3+2]?=some (RI p.2.2):=by
 intro l
 induction l with
 | nil=>intro i p h;simp at h
 | cons a l ih=>
  intro i p h;have o:plV (a::l)=[RI (a.1:Int),RI (a.2.1:Int),RI a.2.2]++plV l:=rfl;rw [o]
  cases i with
  | zero=>
   simp at h;subst h;exact ⟨rfl,rfl,rfl⟩
  | succ i=>
   have:=ih i p (by simpa using h);rw [Rl (by simp;omega),Rl (by simp;omega),Rl (by simp;omega)];simp only [List.length_cons,List.length_nil];rw [show (i+1)*3-(0+1+1+1)=i*3 by omega,show (i+1)*3+1-(0+1+1+1)=i*3+1 by omega,show (i+1)*3+2-(0+1+1+1)=i*3+2 by omega];exact this
theorem Kv (k c r j:Nat) (h:j<c):plW k c (r*c+j+1)=plW k c (r*c+j)++[(k,r,(j:Int))]:=by
 unfold plW;rw [Rx,List.map_append];have h1:(r*c+j)/c=r:=by rw [Nat.add_comm,Nat.add_mul_div_right _ _ ap,Nat.div_eq_of_lt h,RB]
 have i:(r*c+j)%c=j:=by rw [Nat.add_comm,Nat.add_mul_mod_self_right,Nat.mod_eq_of_lt h]
 rw [List.map_singleton,h1,i]
theorem Kw (k r:Nat):plB k (r+1)=plB k r++[(k,r, -1)]:=by simp [plB,Rx]
theorem Nr {sz:Q_} {n:Nat} {p:Pl} (h:p∈plL sz n):p.1<n/\p.2.1<szN sz (p.1+1)/\(p.2.2= -1\/(0<=p.2.2/\p.2.2.toNat<szN sz p.1)):=by
 unfold plL at h;obtain ⟨k,hk,h⟩:=List.mem_flatMap.1 h;have hk:=List.mem_range.1 hk;unfold plK at h;rcases Rw.1 h with h | h
 .unfold plW at h;obtain ⟨i,o,rfl⟩:=List.mem_map.1 h;have o:=List.mem_range.1 o
  have hc:0<szN sz k:=by
   rcases Nat.eq_zero_or_pos (szN sz k) with u | u
   .rw [u,Nat.mul_zero] at o;omega
   .exact u
  exact ⟨hk,Nat.div_lt_of_lt_mul (by rw [Nat.mul_comm];exact o),.inr ⟨by dsimp only;omega,by dsimp only;rw [Int.toNat_natCast];exact Nat.mod_lt _ hc⟩⟩
 .unfold plB at h;obtain ⟨i,o,rfl⟩:=List.mem_map.1 h;exact ⟨hk,List.mem_range.1 o,.inl rfl⟩
theorem zc (i:Inp) (P:Q_) (l:R_) (x:Ex):dP i P (l++[x])=eU (dP i P l) (fX i.cfg.sizes P i.cfg.shift x.1 x.2):=by simp [dP]
theorem jp (i:Inp) (P:Q_) (l:R_):(dP i P l).length=cnt i:=by
 have:∀(l:R_) (a:Q_),(l.foldl (λa x=>eU a (fX i.cfg.sizes P i.cfg.shift x.1 x.2)) a).length=a.length:=by
  intro l
  induction l with
  | nil=>intro a;rfl
  | cons x l ih=>intro a;rw [List.foldl_cons,ih,gQ]
 unfold dP;rw [this,Rp]
theorem Bv (i:Inp) (P:Q_) (l:R_):W64 (dP i P l):=by
 have:∀(l:R_) (a:Q_),W64 a->W64 (l.foldl (λa x=>eU a (fX i.cfg.sizes P i.cfg.shift x.1 x.2)) a):=by
  intro l
  induction l with
  | nil=>intro a h;exact h
  | cons x l ih=>intro a _;exact ih _ (fU λ_ _=>ig _)
 refine this _ _ λk hk=>?_;rw [dB _ _ hk];simp
section
variable {P:Program}
theorem kJ {ops:T0} {rest:List Oper} {op:Oper} {a:T1} {w:R8} {Q:Exit->T1->R8->Prop} {u:R9} {x:Operand} {b o:Nat} {i:R7} (hb:w.rangeAt b o i) (hr:dg P u i.length) (p:op.guard=none) (v:op.op=.load u x) (B:a.eval x=.pointer (some (ar b o))) (h:wpList P ops Q rest (a.put op.dst (.agg i.toArray)) w):wpList P ops Q (op::rest) a w:=by
 obtain ⟨⟨d,h1,y⟩,A⟩:=hr;exact wpList_load_mid p u x v b o B i d hb h1 y A h
end
section
variable {P:Program} {ops:T0} {Q:Exit->T1->R8->Prop} {S:R8->Prop} {n:Nat}
theorem XA.ld {L:List Nat} {a:T1} {w:R8} (i:Nat) (u:R6) {o:Oper} {A:R9} {x:Operand} {b p:Nat} {xs:R6} {t:R9} {D:Nat×Nat} (hb:∀y,S y->y.heap[b]?=some (.cells xs t D)) (hr:dg P A u.size) (C:S w) (k:XA P ops Q S n (i::L) (a.put o.dst (.agg u)) w) (B:ops[i]?=some o:=by (simp only [QZ,Ra,Rc];rfl)) (hop:o.op=.load A x:=by rfl) (hx:a.eval x=.pointer (some (ar b p)):=by rfl) (hcs:(xs.toList.drop p).take u.toList.length=u.toList:=by rfl) (hg:Region.wanted o (yielded ops a.tmps)=true:=by rfl) (hs:Region.noSelect ops=true:=by decide +kernel) (hQ:∀c a w d v,Q (.panic c) (Act.put a d v) w->Q (.panic c) a w:=by (intro _ _ _ d _ h;cases d<;>exact h)) (hc:ub ops n L [i]=true:=by decide +kernel):XA P ops Q S n L a w:=
 XA.takes hs hQ C [i] hc (Ys.cons B (wD u hb hr hop hx hcs hg) Ys.nil) (by simpa using k)
theorem HA.lr {L:List Nat} {a:T1} {w:R8} (i:Nat) {u:R7} {o:Oper} {y:R9} {x:Operand} {b p:Nat} (hb:∀A,S A->A.rangeAt b p u) (hr:dg P y u.length) (D:S w) (k:HA P ops Q S (i::L) (a.put o.dst (.agg u.toArray)) w) (B:ops[i]?=some o:=by (simp only [QZ,Ra,Rc];rfl)) (hop:o.op=.load y x:=by rfl) (hx:a.eval x=.pointer (some (ar b p)):=by rfl) (hg:Region.wanted o (yielded ops a.tmps)=true:=by rfl) (hs:Region.noSelect ops=true:=by decide +kernel) (hQ:∀c a w d v,Q (.panic c) (Act.put a d v) w->Q (.panic c) a w:=by (intro _ _ _ d _ h;cases d<;>exact h)) (hc:mJ ops L [i]=true:=by decide +kernel):HA P ops Q S L a w:=by
 obtain ⟨⟨d,h1,C⟩,H⟩:=hr;exact HA.takes hs hQ D [i] hc (Ys.cons B (yieldsIf_load_mid hg y x hop b p hx u d hb h1 C H) Ys.nil) (by simpa using k)
end
theorem FW (p:Pln) (st h x:Nat) (A:N_) (L c:Nat) (J I N H u:Int) (w:R8) (hp:bT p) (Q:p.bu<=1048576) (O:p.wi<=1048576) (hx:x<p.W) (a0:st<h):Calls prog 79 #[.agg #[.slice A L c,RI J,RI I,RI N,RI (p.W:Nat),RI H,RI (p.mi:Nat),RI (h:Nat),RI (p.bu:Nat),RI (p.ck:Nat),RI (p.wi:Nat),RI u,RI (p.n:Nat)],RI (x:Nat),RI (st:Nat)] w λe D=>∃v,e=.returned v/\D.ownsRow w.heap.size 187 12 v (aE p x st).length (cD (aE p x st))/\aq w D:=by
 obtain ⟨B,i⟩:∃B,w.alloc (.cells #[.slice A L c,RI J,RI I,RI N,RI (p.W:Nat),RI H,RI (p.mi:Nat),RI (h:Nat),RI (p.bu:Nat),RI (p.ck:Nat),RI (p.wi:Nat),RI u,RI (p.n:Nat)] 83)=B:=⟨_,rfl⟩;have Y:B.heap[w.heap.size]?=some (.cells #[.slice A L c,RI J,RI I,RI N,RI (p.W:Nat),RI H,RI (p.mi:Nat),RI (h:Nat),RI (p.bu:Nat),RI (p.ck:Nat),RI (p.wi:Nat),RI u,RI (p.n:Nat)] 83 (0,0)):=by rw [<-i];exact Qy w _
 have C:aq w B:=by rw [<-i];exact (br w).alloc (Qx _) _
 have hc:=ut p st x (.slice A L c) (RI J) (RI I) (RI N) (RI H) (RI (h:Nat)) (RI u) B hp Q O hx;have h1:¬((st:Int)<0):=ap;have h2:¬((h:Int)<=st):=ap;have t0:=λD q=>ww (sb Y D q);obtain ⟨R,y,Hc⟩:=af i C hc;have q0:=br B;clear i Y C hc;go_enter func79,ntmps79;go_wp2_with fail;rw [R.o];refine Hc.o.mono ?_;rintro e w1 ⟨v,rfl,Z,U⟩;have fin:=aF Z y.o.size;have V:=y.o.trans (U.mono y.o.size);obtain ⟨Fin,T⟩:=ae fin V;clear fin V Z U;go_wp2_with fail;go_ret;exact ⟨v,rfl,Fin.o,T.o⟩
theorem et:dg prog 116 22:=⟨⟨_,underlying116,rfl⟩,by kernel_rfl⟩
theorem ku:dN prog 26 2 (RI 0) 1 8:=⟨underlying26,info_parts (by kernel_rfl),rfl,by decide⟩
theorem CG (A:N_) (n c:Nat) (w:R8) (hn:n<=1048576):Calls prog 78 #[.slice A n c] w λe I=>∃U,e=.returned (.agg #[.slice A n c,.slice U n n])/\I.ownsRow w.heap.size 2 1 (.slice U n n) n (aA .i64 (List.replicate n 0))/\aq w I:=by
 have p:=λI=>ny ku I rfl n ap (by unfold maxLen;omega);simp only [fI] at p;have O:=aa p;clear p;have L:=Qy w (.cells #[RJ,RJ] 112);have D:aq w (w.alloc (.cells #[RJ,RJ] 112)):=(QA _ w).alloc (Qx _) _;have y:=Qw L;obtain ⟨V,C,x,u⟩:=O.o (w.alloc (.cells #[RJ,RJ] 112));rw [show (w.alloc (.cells #[RJ,RJ] 112)).heap.size=w.heap.size+1 by simp] at C x;obtain ⟨h,B,H⟩:=af ((u.block w.heap.size y).trans L) (aF (base':=w.heap.size) x ap) (D.trans (u.mono ap));have i:=h.o;obtain ⟨⟨z0,z1⟩,zf⟩:=bx2 i;have Z:=Qw i;clear L D x u i y;go_enter func78,ntmps78;go_wp2_with fail;have e1:=RG V w.heap.size 0 _ _ (.slice A n c) h.o;have e2:=RG _ w.heap.size 1 _ _ (.slice (some (ar (w.heap.size+1) 0)) n n) e1;have R:((V.setCell (ar w.heap.size 0) (.slice A n c)).setCell (ar w.heap.size 1) (.slice (some (ar (w.heap.size+1) 0)) n n)).heap[w.heap.size]?=some (.cells #[.slice A n c,.slice (some (ar (w.heap.size+1) 0)) n n] 112 (0,0)):=by simpa using e2
 have hk:Keep (λj=>j=w.heap.size) V ((V.setCell (ar w.heap.size 0) (.slice A n c)).setCell (ar w.heap.size 1) (.slice (some (ar (w.heap.size+1) 0)) n n)):=Keep.setCell (S:=λj=>j=w.heap.size) (Keep.setCell (S:=λj=>j=w.heap.size) (Keep.refl _ _) _ (.inr rfl) _) _ (.inr rfl) _;obtain ⟨Q,J⟩:∃Q,Q=(V.setCell (ar w.heap.size 0) (.slice A n c)).setCell (ar w.heap.size 1) (.slice (some (ar (w.heap.size+1) 0)) n n):=⟨_,rfl⟩;rw [<-J] at R hk |-;obtain ⟨⟨r0,Y⟩,rf⟩:=bx2 R;have N:=hk.own B.o (λj T e=>ay h.o (by decide) B.o (by rw [T,e]));exact QM (v:=.agg #[.slice A n c,.slice (some (ar (w.heap.size+1) 0)) n n]) (by simp [results,results78,go_sem,r0,Y]) rfl ⟨_,rfl,N,H.o.trans (hk.toBelow H.o.size (λj T=>ap))⟩
def iq (w:R8) (vs:R6) (i:Inp) (x:Nat) (m:Mst):Prop:=∃A c D C T ct R I h v o p B u y H IA ic,vs=#[.slice A i.cfg.sizes.length c,RI i.cfg.shift,RI i.cfg.rate,RI i.cfg.mom,RI i.cfg.workers,RI i.cfg.batch,RI i.cfg.micros,RI i.cfg.steps,RI i.cfg.bucket,RI i.cfg.chunk,RI i.cfg.window,RI i.cfg.cap,.slice D i.data.length C,.slice T i.start.length ct,.slice R i.draws.length I,RI (x:Nat),.slice h i.start.length v,.slice o i.start.length p,.slice B i.start.length u,.slice y m.rc.length H,.slice IA (dC i x).length ic,RI (bF i x m:Nat)]/\
 gW w A c D T ct R i/\cU w h m.P v/\cU w o m.M p/\cU w B m.G u/\dR rEx 2 w y m.rc/\Rd w IA (cD (dC i x))/\m.P.length=i.start.length/\m.M.length=i.start.length/\m.G.length=i.start.length
theorem zp {i:Inp} (h:bD i) (x:Nat) {k:Nat} (hk:k<=i.cfg.steps.toNat):(iL i x k).length<=48000000:=by
 rw [ot h.ok];have h1:=mj h.ok x 0;have o:k<=6:=by have:=h.s;omega
 have:=Nat.mul_le_mul o h1;omega
def Qn (i:Inp) (x:Nat) (A:N_) (c:Nat) (D:N_) (T:N_) (ct:Nat) (R:N_) (w:R8) (e:Ending) (o:R8):Prop:=
 ∃vs,e=.returned (.tuple #[.agg vs,RI 0])/\vs.size=22/\(vs.toList.all (·.oneCell')=true)/\aq w o/\∀h,Keep (λk=>k<w.heap.size) o h->gW h A c D T ct R i->iq h vs i x (fu i)
theorem OC {A:N_} {c:Nat} {D:N_} {Q:Nat} {T:N_} {ct:Nat} {R:N_} {U:Nat} {i:Inp} {x:Nat} {w H o:R8} {B:N_} {g rb:Nat} {v:Value} (hn:i.start.length<=60) (O:Keep (λk=>k<w.heap.size) H o) (I:gW o A c D T ct R i) (oM:H.ownsRow w.heap.size 2 1 (.slice B i.start.length i.start.length) i.start.length (aA .i64 (List.replicate i.start.length 0))) (oG:H.ownsRow w.heap.size 2 1 (.slice (some (ar g 0)) i.start.length i.start.length) i.start.length (aA .i64 (List.replicate i.start.length 0))) (hr:H.heap[rb]?=some (.cells #[.slice T i.start.length ct,.slice B i.start.length i.start.length] 112 (0,0))) (hrb:w.heap.size<=rb) (N:H.ownsRow w.heap.size 187 12 v (dC i x).length (cD (dC i x))):iq o #[.slice A i.cfg.sizes.length c,RI i.cfg.shift,RI i.cfg.rate,RI i.cfg.mom,RI i.cfg.workers,RI i.cfg.batch,RI i.cfg.micros,RI i.cfg.steps,RI i.cfg.bucket,RI i.cfg.chunk,RI i.cfg.window,RI i.cfg.cap,.slice D i.data.length Q,.slice T i.start.length ct,.slice R i.draws.length U,RI (x:Nat),.slice T i.start.length ct,.slice B i.start.length i.start.length,.slice (some (ar g 0)) i.start.length i.start.length,.slice (some (ar rb 0)) 1 1,v,RI 0] i x (fu i):=by
 obtain ⟨IA,ic,rfl,_⟩:=aD N;have C:∀{u:Value} {e size n xs},H.ownsRow w.heap.size e size u n xs->o.ownsRow w.heap.size e size u n xs:=λh=>O.own h λk hk e=>by have:=(h.lt k hk).1;omega
 have Y:bF i x (fu i)=0:=by simp [bF,fu]
 have p:(List.replicate i.start.length (0:Int)).length<=i.start.length:=by simp
 have V:cU o B (List.replicate i.start.length 0) i.start.length:=⟨p,by rw [Rp];omega,Rd.own (C oM),tB _⟩;have L:o.heap[rb]?=some (.cells #[.slice T i.start.length ct,.slice B i.start.length i.start.length] 112 (0,0)):=(O.block _ (Qw hr) ap).trans hr;refine ⟨A,c,D,Q,T,ct,R,U,T,ct,B,i.start.length,some (ar g 0),i.start.length,some (ar rb 0),1,IA,ic,?_,I,I.t,V,⟨p,by show (List.replicate i.start.length (0:Int)).length<=_;rw [Rp];omega,Rd.own (C oG),tB _⟩,?_,Rd.own (C N),rfl,by simp [fu],by simp [fu]⟩
 .rw [Y];rfl
 .refine ⟨[[.slice T i.start.length ct,.slice B i.start.length i.start.length]],λk u Z=>⟨_,_,rfl,by rw [RB,Qz _ rb k _ _ _ L];simpa using Z⟩,rfl,by simp,?_⟩;intro j y J
  cases j with
  | succ j=>simp [fu] at J
  | zero=>
   simp only [fu,Rc,Option.some.injEq] at J;subst J;exact ⟨T,ct,B,i.start.length,by simp [cF],I.t,V⟩
theorem OB {h V i:R8} {n g rb b:Nat} {X:Obj} {Z:R6} {xs:R7} (x:aq h V) (v:V.ownsRow h.heap.size 2 1 (.slice (some (ar g 0)) n n) n xs) {Y:R6} (hr:V.heap[rb]?=some (.cells Y 112 (0,0))) (hb:h.heap.size<=rb) (u:V.heap[b]?=some (.cells Z 116 (0,0))) (o:h.heap.size<=b) (A:i.heap[b]?=some X) (p:Keep (λj=>j=b) V i):i.heap[b]?=some X/\i.ownsRow h.heap.size 2 1 (.slice (some (ar g 0)) n n) n xs/\i.heap[rb]?=some (.cells Y 112 (0,0))/\h.heap.size<=rb/\h.heap.size<=b/\aq h i:=by
 refine ⟨A,p.own v (λk hk e=>ay u (by decide) v (by rw [hk,e])),(p.block _ (Qw hr) (λe=>?_)).trans hr,hb,o,x.trans (p.toBelow x.size (λj y=>by rw [y];exact o))⟩;rw [<-e,hr] at u;simp at u
theorem CR (A:N_) (c:Nat) (D:N_) (cd:Nat) (T:N_) (ct:Nat) (R:N_) (Z:Nat) (i:Inp) (x:Nat) (w:R8) (h:gW w A c D T ct R i) (hs:bD i) (hx:x<(ax i).W):Calls prog 46 #[.agg (aL A c D cd T ct R Z i),RI (x:Nat)] w (Qn i x A c D T ct R w):=by
 have hc:=hs.g.c;have ew:(((ax i).W:Nat):Int)=i.cfg.workers:=by have:=hc.w;simp only [ax];omega
 have em:(((ax i).mi:Nat):Int)=i.cfg.micros:=by have:=hc.mi;simp only [ax];omega
 have eu:(((ax i).bu:Nat):Int)=i.cfg.bucket:=by have:=hc.bu;simp only [ax];omega
 have ec:(((ax i).ck:Nat):Int)=i.cfg.chunk:=by have:=hc.ch;simp only [ax];omega
 have ei:(((ax i).wi:Nat):Int)=i.cfg.window:=by have:=hc.wi;simp only [ax];omega
 have en:(ax i).n=i.start.length:=rfl;obtain ⟨s,a4⟩:∃s:Nat,i.cfg.steps=(s:Int):=⟨i.cfg.steps.toNat,by have:=hc.st;omega⟩;have be:i.cfg.steps.toNat=s:=ap;have bI:s<=6:=by have:=hs.s;omega
 have hn:=hs.n;have bX:¬i.cfg.workers<=(x:Int):=ap;have bO:¬(x:Int)<0:=ap;have a2:=λk (hk:k<=s)=>zp hs x (k:=k) ap;have bb:=λst=>mj hs.ok x st;have L:=λp=>CG T i.start.length ct p ap;have Y:=λp=>lj A i.cfg.sizes.length c i.cfg.shift i.cfg.rate i.cfg.mom i.cfg.workers i.cfg.batch i.cfg.micros i.cfg.steps i.cfg.bucket i.cfg.chunk i.cfg.window i.cfg.cap D i.data.length cd T i.start.length ct R i.draws.length Z p;have C:=λk (hk:k<s) p=>FW (ax i) k s x A i.cfg.sizes.length c i.cfg.shift i.cfg.rate i.cfg.mom i.cfg.batch i.cfg.cap p hs.ok (by have:=hc.bu;simp only [ax];omega) (by have:=hc.wi;simp only [ax];omega) hx hk;rw [<-a4] at C;simp only [ew,em,eu,ec,ei,en] at C;have bA:(x:Int)<=1048576:=by have:=hc.w;omega
 obtain ⟨W0,W1,aR,aP,g0,g1,k1, -⟩:=gM w (aL A c D cd T ct R Z i) RM 29 116;have a7:=j9 A c D cd T ct R Z i W1 (h.below k1);rw [rt.2 hs.g] at a7;obtain ⟨b9,b5,bi,G0,G1,K1,a0,a5⟩:=ak aR aP a7 g0 g1 k1 L Y;obtain ⟨a6,ad,c6,HT,a8,Hh,Hc⟩:=aj C a2 bb be a4 h hc;have t4:∀p,aq W1 p->p.cell? (ar w.heap.size 4)=some (RI i.cfg.workers):=λp q=>Qz p w.heap.size 4 _ _ _ (sb g0 p q);have a3:∀p,aq W1 p->p.cell? (ar w.heap.size 13)=some (.slice T i.start.length ct):=λp q=>Qz p w.heap.size 13 _ _ _ (sb g0 p q);have tl:=sl g0;have q0:=br W1;clear aR aP g0 g1 a7 h k1 L Y C a2 bb be a4 ew em eu ec ei en hs hc;go_enter func46,ntmps46;go_wp2_with (refine aN (b:=w.heap.size) (aL A c D cd T ct R Z i) (by rw [b9.o,b5.o];exact G0.o) ez rfl rfl rfl rfl ?_);rw [b9.o,b5.o];refine bi.o.mono ?_;rintro e w1 ⟨rfl,k2⟩;have q1:=bt q0 k2;clear k2 q0;go_wp2_with fail;refine (a0.o w1).mono ?_;rintro e w2 ⟨Q,rfl,aM,N⟩;have q2:=bt q1 N;have O2:=aa (aF aM q1.size);clear aM N q1;obtain ⟨H,O⟩:∃H,w2.alloc (.cells #[.slice T i.start.length ct,.slice Q i.start.length i.start.length] 112)=H:=⟨_,rfl⟩;have N:aq w2 H:=by rw [<-O];exact (br w2).alloc (Qx _) _
 have g3:H.heap[w2.heap.size]?=some (.cells #[.slice T i.start.length ct,.slice Q i.start.length i.start.length] 112 (0,0)):=by rw [<-O];exact Qy w2 _
 obtain ⟨Q3,c8,G3,O3⟩:=ag (bt q2 N) O g3 (az O2.o N);go_wp2_with fail;clear g3 N O q2
 go_cut [8] (λv wx=>∃B g rb,v=(au B)/\wx.heap[B]?=some (.cells #[.slice A i.cfg.sizes.length c,RI i.cfg.shift,RI i.cfg.rate,RI i.cfg.mom,RI i.cfg.workers,RI i.cfg.batch,RI i.cfg.micros,RI i.cfg.steps,RI i.cfg.bucket,RI i.cfg.chunk,RI i.cfg.window,RI i.cfg.cap,.slice D i.data.length cd,.slice T i.start.length ct,.slice R i.draws.length Z,RI (x:Nat),.slice T i.start.length ct,.slice Q i.start.length i.start.length,.slice (some (ar g 0)) i.start.length i.start.length,.slice (some (ar rb 0)) 1 1,RJ,RI 0] 116 (0,0))/\wx.ownsRow H.heap.size 2 1 (.slice (some (ar g 0)) i.start.length i.start.length) i.start.length (aA .i64 (List.replicate i.start.length 0))/\wx.heap[rb]?=some (.cells #[.slice T i.start.length ct,.slice Q i.start.length i.start.length] 112 (0,0))/\H.heap.size<=rb/\H.heap.size<=B/\aq H wx)
 case first=>
  have s7:=λp q=>bx2 (sb G3.o p q);have bl:=sl G3.o;have b0:=λp (q:aq H p)=>a3 p (bt Q3.o q);have bo:=λp (q:aq H p)=>tl p (bt Q3.o q);clear t4 a3 tl;have q3:aq H H.drew:=(br H).drew;refine HA.g (λp:R8=>aq H p) ?_;refine HA.ld 0 (aL A c D cd T ct R Z i) (λp q=>sb G0.o p (bt Q3.o q)) ez q3 ?_;refine HA.t ?_ [1,2,3,4,5,7] q3 ?_;obtain ⟨U,hU⟩:∃U,H.drew=U:=⟨_,rfl⟩;rw [hU] at q3 |-;clear hU;have q:=q3;clear q3
  repeat' first
   | (refine HA.three 6 8 10 ?_ ?_ ?_)
   | (refine HA.two 8 10 ?_ ?_)
   | (refine HA.two 6 10 ?_ ?_)
   | (refine HA.two 6 8 ?_ ?_)
   | (refine HA.sole 6 ?_)
   | (refine HA.sole 8 ?_)
   | (refine HA.sole 10 ?_)
   | (obtain ⟨V,hV,oG,J⟩:=ny ku U rfl i.start.length ap (by unfold maxLen;omega);rw [fI] at oG;replace oG:=aF oG q.size;replace q:=q.trans (J.mono q.size);(try replace gR:=sb gR _ J);(try replace gB:=sb gB _ J);refine HAS.v (i:=6) V (.slice (some (ar U.heap.size 0)) i.start.length i.start.length) q ?_;clear hV J;obtain ⟨U,rfl⟩:∃U,U=V:=⟨_,rfl⟩)
   | (have bv:=q.size;have J:=(br U).alloc (Qx _) (.cells #[.slice T i.start.length ct,.slice Q i.start.length i.start.length] 112);have gR:=Qy U (.cells #[.slice T i.start.length ct,.slice Q i.start.length i.start.length] 112);(try replace oG:=az oG J);(try replace gB:=sb gB _ J);replace q:=q.alloc q.size (.cells #[.slice T i.start.length ct,.slice Q i.start.length i.start.length] 112);refine HAS.v (i:=8) (U.alloc (.cells #[.slice T i.start.length ct,.slice Q i.start.length i.start.length] 112)) (.slice (some (ar U.heap.size 0)) 1 1) q ?_;obtain ⟨V,hv⟩:∃V,U.alloc (.cells #[.slice T i.start.length ct,.slice Q i.start.length i.start.length] 112)=V:=⟨_,rfl⟩;rw [hv] at J gR q |-;(try rw [hv] at oG);(try rw [hv] at gB);clear hv J;obtain ⟨U,rfl⟩:∃U,U=V:=⟨_,rfl⟩)
   | (have bs:=q.size;have J:=(br U).alloc (Qx _) (.cells RM 116);have gB:=Qy U (.cells RM 116);(try replace oG:=az oG J);(try replace gR:=sb gR _ J);replace q:=q.alloc q.size (.cells RM 116);refine HAS.v (i:=10) (U.alloc (.cells RM 116)) ((au U.heap.size)) q ?_;obtain ⟨V,hv⟩:∃V,U.alloc (.cells RM 116)=V:=⟨_,rfl⟩;rw [hv] at J gB q |-;(try rw [hv] at oG);(try rw [hv] at gR);clear hv J;obtain ⟨U,rfl⟩:∃U,U=V:=⟨_,rfl⟩)
   | (refine HA.t ?_ [9] q ?_)
   | (refine HA.st 11 gB et (λw9 e9 k9=>?_);have F:=OB q oG gR bv gB bs e9 k9;refine ⟨F.2.2.2.2.2,HA.d ?_⟩;clear s7 bl b0 bo e9 k9;have HF:=aa F;clear F;go_wp2_with fail;go_meet;exact ⟨_,_,_,rfl,HF.o⟩)
   | fail
 case rest=>
  obtain ⟨B,g,rb,rfl,h8,oG,hR,hrb,bN,hB⟩:=hcut;have qc:=bt Q3.o hB;have cb:=tl W1 (br W1);have bG:=Qw G1.o;have O:=Q3.o.size;have gI:=sb G0.o wc qc;have kI:=λp (q:Keep (λj=>j=B) wc p)=>(q.block w.heap.size (tl wc qc) ap).trans gI;have j7:∀p,Keep (λj=>j=B) wc p->p.cell? (ar w.heap.size 7)=some (RI i.cfg.steps):=λp q=>Qz p w.heap.size 7 _ _ _ (kI p q);have bf:=Qw h8;have gZ:=sb G1.o wc qc;obtain ⟨H8,OG,HR,HB,KI,GZ⟩:=ai h8 oG hR hB kI gZ;have bz:=Keep.refl (λj=>j=B) wc;have b3:w.heap.size<wc.heap.size:=tl wc qc;clear t4 a3 tl h8 oG hR hB gI kI gZ qc;go_wp2_with fail;clear bz
  go_loopw [9] (λy wr=>∃k:Nat,k<=s/\y=RI k/\∃v,wr.heap[B]?=some (.cells #[.slice A i.cfg.sizes.length c,RI i.cfg.shift,RI i.cfg.rate,RI i.cfg.mom,RI i.cfg.workers,RI i.cfg.batch,RI i.cfg.micros,RI i.cfg.steps,RI i.cfg.bucket,RI i.cfg.chunk,RI i.cfg.window,RI i.cfg.cap,.slice D i.data.length cd,.slice T i.start.length ct,.slice R i.draws.length Z,RI (x:Nat),.slice T i.start.length ct,.slice Q i.start.length i.start.length,.slice (some (ar g 0)) i.start.length i.start.length,.slice (some (ar rb 0)) 1 1,v,RI 0] 116 (0,0))/\wr.ownsRow wc.heap.size 187 12 v (iL i x k).length (cD (iL i x k))/\Keep (λj=>j=B) wc wr) (λy _=>s-(intOf y).toNat)
  .exact ⟨0,QB _,rfl,_,H8.o,by simpa [iL,cD] using QI _ _ _ _,Keep.refl _ _⟩
  case round=>
   obtain ⟨k,hk,rfl,v,e8,oI,qk⟩:=hrel;by_cases aG:k<s
   .have bh:(k:Int)<i.cfg.steps:=by rw [a8.o];omega
    have bM:IntKind.i64.wrap ((k:Int)+1)=((k+1:Nat):Int):=by rw [QC _ ap];push_cast;rfl
    have a9:∀j,j<wc.heap.size->¬v.ownBlock=some j:=λj I e=>by have:=(oI.lt j e).1;omega
    have kb:=λp (q:Keep (λj=>v.ownBlock=some j) wr p)=>(q.block B (Qw e8) (a9 B bf)).trans e8;have kj:=λp (q:Keep (λj=>v.ownBlock=some j) wr p)=>(q.block w.heap.size (QE b3 qk.size) (a9 _ b3)).trans (KI.o wr qk);obtain ⟨KB,KJ,OI,QK⟩:=ag kb kj oI qk;go_wp2_with fail;clear j7 qk;have ab:∀p,Keep (λj=>v.ownBlock=some j) wr p->p.cell? (ar B 20)=some v:=λp q=>Qz p B 20 _ _ _ (KB.o p q);have q0:Keep (λj=>v.ownBlock=some j) wr wr.drew:=(Keep.refl _ _).drew;refine XA.g 8 (λp:R8=>Keep (λj=>v.ownBlock=some j) wr p) ?_;refine XA.t ?_ [0,1,4,5] q0 ?_;refine XA.ld 2 (aL A c D cd T ct R Z i) (λp q=>KJ.o p q) ez q0 ?_;refine XA.c 3 (a5.o _) ?_;rintro e w3 ⟨rfl,N⟩;refine ⟨_,rfl,q0.trans (Keep.below N),λ_=>?_⟩;have q3:=q0.trans (Keep.below (S:=λj=>v.ownBlock=some j) N);refine XA.c 6 (a6.o k aG w3) ?_;rintro e w4 ⟨u,rfl,oU,k4⟩;have q4:=q3.trans (Keep.below (S:=λj=>v.ownBlock=some j) k4);refine ⟨_,rfl,q4,λ_=>?_⟩;obtain ⟨UA,uc,rfl,_⟩:=aD oU;have b2:=az (az (OI.o.drew) N) k4;have a1:aq wr w4:=((br wr).drew.trans N).trans (k4.mono N.size);have av:=ad.o (k+1) aG;rw [jV,Rh] at av;have ao:((iL i x k).length+(aE (ax i) x k).length)*88<=140737488355328:=ap;refine XA.o 7 (λK' hK=>?_);refine bW iX (.tmp 47) (.tmp 52) rfl rfl wc.heap.size v _ _ rfl b2 UA _ uc _ rfl (Rd.own oU) oU.1 (LB _) ao (by unfold maxLen;omega) (QD QK.o.size a1.size) ?_;intro A7 c7 w7 o7 b7 g7 _;have q7:Keep (λj=>v.ownBlock=some j) wr w7:=((Keep.below a1).grown g7 (λk hk=>.inr hk));refine hK.out _ _ q7 λ_=>?_;refine XA.e ?_;simp only [Re,Rf];have e7:=KB.o w7 q7;have f7:=QG w7 B 20 _ _ e7;have l7:=Qw e7;rw [<-Dy,<-jV,<-Rh,<-jV] at o7;have k8:Keep (λj=>j=B) wc (w7.setCell (ar B 20) (.slice A7 ((iL i x (k+1)).length) c7)):=((QK.o.trans (Keep.below a1)).grown g7 (λk hk=>.inl (by have:=(OI.o.lt k hk).1;omega))).setCell _ (.inr rfl) _;have b1:=ss (i:=20) (v:=.slice A7 ((iL i x (k+1)).length) c7) e7 rfl;have o8:=(Keep.setCell (S:=λj=>j=B) (Keep.refl _ w7) (ar B 20) (.inr rfl) (.slice A7 ((iL i x (k+1)).length) c7)).own o7 (λj I e=>by have:=(o7.lt j I).1;omega);obtain ⟨K8,E8,O8⟩:=af k8 b1 o8;rw [<-Rh,<-jV];have cc:=ab w7 q7;clear hK K' k8 b1 o8 o7 b7 g7 q7 e7 ab q0 q3 q4 a1 b2 N k4 av ao oU;go_wp2_with fail;go_roundw
    .exact ⟨k+1,by omega,by go_num,_,by simpa using E8.o,O8.o,K8.o⟩
    .simp [intOf];omega
   .obtain rfl:k=s:=ap;have bh:¬(k:Int)<i.cfg.steps:=by rw [a8.o];omega
    obtain ⟨IA,ic,rfl,_⟩:=aD oI;have gZ:=(qk.block (w.heap.size+1) (Qw GZ.o) ap).trans GZ.o;obtain ⟨E8,bn,OI,QK⟩:=ag e8 gZ oI qk;clear e8 gZ oI;go_wp2_with (first | (refine aN #[.slice A i.cfg.sizes.length c,RI i.cfg.shift,RI i.cfg.rate,RI i.cfg.mom,RI i.cfg.workers,RI i.cfg.batch,RI i.cfg.micros,RI i.cfg.steps,RI i.cfg.bucket,RI i.cfg.chunk,RI i.cfg.window,RI i.cfg.cap,.slice D i.data.length cd,.slice T i.start.length ct,.slice R i.draws.length Z,RI (x:Nat),.slice T i.start.length ct,.slice Q i.start.length i.start.length,.slice (some (ar g 0)) i.start.length i.start.length,.slice (some (ar rb 0)) 1 1,.slice IA (iL i x k).length ic,RI 0] E8.o et rfl rfl rfl rfl ?_) | (refine aI bn.o et rfl rfl rfl rfl rfl rfl rfl ?_;intro w9 e9 k9;obtain ⟨E9,K9⟩:=ae e9 k9;clear e9 k9));refine QM (dO rfl rfl E9.o et) rfl ⟨_,rfl,rfl,rfl,?_,λc9 kk hI=>?_⟩
    .exact ((K1.o.trans (Q3.o.mono K1.o.size)).trans (HB.o.mono ap)).trans ((QK.o.toBelow ap (λj I=>ap)).trans (K9.o.toBelow (by have:=QK.o.size;omega) (λj I=>ap)))
    .have kf:∀{u:Value} {e size n xs base},base<=wc.heap.size->W1.heap.size<=base->wc.ownsRow base e size u n xs->(∀j,u.ownBlock=some j->j≠B)->w9.ownsRow w.heap.size e size u n xs:=λh1 h2 h3 h4=>aF (K9.o.own (QK.o.own h3 (λj I e=>h4 j I e)) (λj I e=>by have:=(h3.lt j I).1;omega)) ap
     have b4:rb≠B:=λe=>by
      have h8:=H8.o;rw [<-e,HR.o] at h8;simp at h8
     have bw:w9.heap[rb]?=some (.cells #[.slice T i.start.length ct,.slice Q i.start.length i.start.length] 112 (0,0)):=((K9.o.block rb (QE (Qw HR.o) QK.o.size) ap).trans (QK.o.block rb (Qw HR.o) b4)).trans HR.o;have hT:=HT.o;have b6:=aF (base':=w.heap.size) (K9.o.own OI.o (λj I e=>by have:=(OI.o.lt j I).1;omega)) ap;rw [<-hT] at b6 |-;exact OC hn kk hI (kf (by have:=HB.o.size;have:=Q3.o.size;omega) (Qx _) (az O3.o HB.o) (λj I=>by have:=(O3.o.lt j I).2;omega)) (kf HB.o.size O OG.o (λj I e=>ay H8.o (by decide) OG.o (by rw [I,e]))) bw ap b6
theorem jD:dg prog 187 12:=⟨⟨_,underlying187,rfl⟩,by kernel_rfl⟩
theorem Lz {w:R8} {A:N_} {l:List Itm} (h:Rd w A (cD l)) {k:Nat} {y:Itm} (u:l[k]?=some y):∃b o,A=some (ar b o)/\w.rangeAt b (o+k*12) (bC y):=by
 obtain ⟨b,o,hA,hc⟩:=ER h u;refine ⟨b,o,hA,λj v i=>?_⟩;have p:=(Ri.1 i).1;rw [sk] at p;rw [Rz,hc j p,i]
theorem JP (A:N_) (c:Nat) (k:Cfg) (w:R8):Calls prog 145 #[.agg (dH A c k)] w λe B=>e=.returned (.agg #[RI k.rate,RI k.mom,RI k.shift])/\aq w B:=by
 obtain ⟨sz,sh,ra,h,o,ba,mi,st,bu,ch,wi,ca⟩:=k;dsimp only [dH];obtain ⟨L,u⟩:∃L,sz.length=L:=⟨_,rfl⟩;rw [u];clear u;go_enter func145,ntmps145;go_wp2_with fail;have p:=Qy (w.alloc (.cells #[.slice A L c,RI sh,RI ra,RI h,RI o,RI ba,RI mi,RI st,RI bu,RI ch,RI wi,RI ca] 24)) (.cells #[RI ra,RI h,RI sh] 255);rw [show (w.alloc (.cells #[.slice A L c,RI sh,RI ra,RI h,RI o,RI ba,RI mi,RI st,RI bu,RI ch,RI wi,RI ca] 24)).heap.size=w.heap.size+1 by simp] at p;have hB:aq w ((w.alloc (.cells #[.slice A L c,RI sh,RI ra,RI h,RI o,RI ba,RI mi,RI st,RI bu,RI ch,RI wi,RI ca] 24)).alloc (.cells #[RI ra,RI h,RI sh] 255)):=((QA _ w).alloc (Qx _) _).alloc (by simp) _;obtain ⟨x,i⟩:∃x,x=(w.alloc (.cells #[.slice A L c,RI sh,RI ra,RI h,RI o,RI ba,RI mi,RI st,RI bu,RI ch,RI wi,RI ca] 24)).alloc (.cells #[RI ra,RI h,RI sh] 255):=⟨_,rfl⟩;rw [<-i] at p hB |-;clear i;obtain ⟨⟨D,C,y⟩,H⟩:=bx3 p;exact QM (v:=.agg #[RI ra,RI h,RI sh]) (by simp [results,results145,go_sem,D,C,y]) rfl ⟨rfl,hB⟩
theorem CQ (A:N_) (c:Nat) (D:N_) (x:Nat) (T:N_) (ct:Nat) (R:N_) (p:Nat) (i:Inp) (P:N_) (h o:Nat) (w:R8):Calls prog 160 #[.agg (aL A c D x T ct R p i),.slice P h o] w λe V=>e=.returned (.agg #[.slice A i.cfg.sizes.length c,.slice P h o,RI i.cfg.shift])/\aq w V:=by
 obtain ⟨⟨sz,sh,ra,y,B,ba,mi,st,bu,ch,wi,ca⟩,data,start,draws⟩:=i;dsimp only [aL];obtain ⟨L,J⟩:∃L,sz.length=L:=⟨_,rfl⟩;obtain ⟨N,U⟩:∃N,data.length=N:=⟨_,rfl⟩;obtain ⟨M,H⟩:∃M,start.length=M:=⟨_,rfl⟩;obtain ⟨Q,I⟩:∃Q,draws.length=Q:=⟨_,rfl⟩;rw [J,U,H,I];clear J U H I;go_enter func160,ntmps160;go_wp2_with fail;have C:=Qy (w.alloc (.cells #[.slice A L c,RI sh,RI ra,RI y,RI B,RI ba,RI mi,RI st,RI bu,RI ch,RI wi,RI ca,.slice D N x,.slice T M ct,.slice R Q p] 29)) (.cells #[.slice A L c,.slice P h o,RI sh] 269);rw [show (w.alloc (.cells #[.slice A L c,RI sh,RI ra,RI y,RI B,RI ba,RI mi,RI st,RI bu,RI ch,RI wi,RI ca,.slice D N x,.slice T M ct,.slice R Q p] 29)).heap.size=w.heap.size+1 by simp] at C;have hB:aq w ((w.alloc (.cells #[.slice A L c,RI sh,RI ra,RI y,RI B,RI ba,RI mi,RI st,RI bu,RI ch,RI wi,RI ca,.slice D N x,.slice T M ct,.slice R Q p] 29)).alloc (.cells #[.slice A L c,.slice P h o,RI sh] 269)):=((QA _ w).alloc (Qx _) _).alloc (by simp) _;obtain ⟨O,u⟩:∃O,O=(w.alloc (.cells #[.slice A L c,RI sh,RI ra,RI y,RI B,RI ba,RI mi,RI st,RI bu,RI ch,RI wi,RI ca,.slice D N x,.slice T M ct,.slice R Q p] 29)).alloc (.cells #[.slice A L c,.slice P h o,RI sh] 269):=⟨_,rfl⟩;rw [<-u] at C hB |-;clear u;obtain ⟨⟨Z,Y,r2⟩,rf⟩:=bx3 C;exact QM (v:=.agg #[.slice A L c,.slice P h o,RI sh]) (by simp [results,results160,go_sem,Z,Y,r2]) rfl ⟨rfl,hB⟩
def Da:fq (Q_):=λw h zs=>∃A c,h=[.slice A zs.length c]/\zs.length<=c/\zs.length<=17592186043904/\Rd w A (aA .i64 zs)
theorem wR:Fj Da:=λhb ⟨A,c,h1,h,o,i⟩=>⟨A,c,h1,h,o,i.below hb⟩
theorem Gu {w:R8} {V:N_} {p:List (Q_)} (h:dR Da 1 w V p) {k:Nat} {x:Q_} (D:p[k]?=some x):
  ∃b o A c,V=some (ar b o)/\b<w.heap.size/\w.cell? (ar b (o+k))=some (.slice A x.length c)/\Rd w A (aA .i64 x)/\x.length<=17592186043904/\x.length<=c:=by
 obtain ⟨b,o,H,rfl,hb,B,y,i,_⟩:=h.get (by decide) D;obtain ⟨A,c,rfl,u,C,v⟩:=y;exact ⟨b,o,A,c,rfl,hb,by rw [Nat.mul_one] at i;exact i,v,C,u⟩
def xp:fq (Q_):=λw h zs=>∃A c,h=[.slice A zs.length c]/\zs.length<=17592186043904/\Rd w A (aA .i64 zs)
theorem Cr:Fj xp:=λhb ⟨A,c,h1,i,h⟩=>⟨A,c,h1,i,h.below hb⟩
theorem qi {w:R8} {V:N_} {p:List (Q_)} (h:dR xp 1 w V p) {k:Nat} {x:Q_} (C:p[k]?=some x):
  ∃b o A c,V=some (ar b o)/\b<w.heap.size/\w.cell? (ar b (o+k))=some (.slice A x.length c)/\Rd w A (aA .i64 x)/\x.length<=17592186043904:=by
 obtain ⟨b,o,D,rfl,hb,y,v,i,_⟩:=h.get (by decide) C;obtain ⟨A,c,rfl,B,u⟩:=v;exact ⟨b,o,A,c,rfl,hb,by rw [Nat.mul_one] at i;exact i,u,B⟩
theorem xY:∀vals:R7,List.flatten (vals.map λv=>[v])=vals
 | []=>rfl
 | v::l=>by simp [xY l]
theorem zK {α:Type} {R:fq α} {w:R8} {A:N_} {vals:R7} {l:List α} (hA:Rd w A vals) (hl:vals.length=l.length) (h:∀(j:Nat) (x:α),l[j]?=some x->∃v,vals[j]?=some v/\R w [v] x):dR R 1 w A l:=by
 refine ⟨vals.map λv=>[v],by rw [xY];exact hA,by simp [hl],by simp,λj x p=>?_⟩;obtain ⟨v,i,o⟩:=h j x p;have:cF (vals.map λv=>[v]) j=[v]:=by simp [cF,List.getD,i]
 rw [this];exact o
theorem NI {S:Nat->Prop} {v w p:R8} (h:Keep S w p) {A:N_} {xs:R7} (C:Rd v A xs) (hr:Rd w A xs) (B:∀k,S k->v.heap.size<=k):Rd p A xs:=λk u x=>by
 obtain ⟨b,o,rfl,c0⟩:=C k u x;obtain ⟨D,H,i,c1⟩:=hr k u x;injection i with i;injection i with i1 i2 _;subst i1;subst i2
 exact ⟨b,o,rfl,h.cell c1 λhs=>by have h1:=B _ hs;have y:=aB c0;dsimp only at h1 y;omega⟩
theorem Js (W:R8) (b:Nat) {o a1:Value} (x y:Value) {t:R9} (h:W.heap[b]?=some (.cells #[o,a1] t (0,0))): ((W.setCell (ar b 0) x).setCell (ar b 1) y).heap[b]?=some (.cells #[x,y] t (0,0))/\Keep (λj=>j=b) W ((W.setCell (ar b 0) x).setCell (ar b 1) y):=by
 have p:=RG W b 0 _ _ x h;have i:=RG _ b 1 _ _ y p;exact ⟨by simpa using i,Keep.setCell (S:=λj=>j=b) (Keep.setCell (S:=λj=>j=b) (Keep.refl _ _) _ (.inr rfl) _) _ (.inr rfl) _⟩
theorem Jr (W:R8) (b:Nat) {i a1 v B:Value} (x y z u:Value) {t:R9} (h:W.heap[b]?=some (.cells #[i,a1,v,B] t (0,0))): ((((W.setCell (ar b 0) x).setCell (ar b 1) y).setCell (ar b 2) z).setCell (ar b 3) u).heap[b]?=some (.cells #[x,y,z,u] t (0,0))/\Keep (λj=>j=b) W ((((W.setCell (ar b 0) x).setCell (ar b 1) y).setCell (ar b 2) z).setCell (ar b 3) u):=by
 have o:=RG W b 0 _ _ x h;have C:=RG _ b 1 _ _ y o;have p:=RG _ b 2 _ _ z C;have A:=RG _ b 3 _ _ u p;exact ⟨by simpa using A,Keep.setCell (S:=λj=>j=b) (Keep.setCell (S:=λj=>j=b) (Keep.setCell (S:=λj=>j=b) (Keep.setCell (S:=λj=>j=b) (Keep.refl _ _) _ (.inr rfl) _) _ (.inr rfl) _) _ (.inr rfl) _) _ (.inr rfl) _⟩
theorem gt {w:R8} {b:Nat} {x:Obj} (h:w.heap[b]?=some x) (o:Obj):(w.alloc o).heap[b]?=some x:= (QL w o b (Array.getElem?_eq_some_iff.1 h).1).trans h
theorem nh (w:R8) (xs:R6) (e:R9) {n:Nat} (hn:w.heap.size=n):(w.alloc (.cells xs e)).heap[n]?=some (.cells xs e (0,0)):=by
 subst hn;exact Qy w _
theorem jb {w:R8} {n:Nat} (h:w.heap.size=n) (o:Obj):(w.alloc o).heap.size=n+1:=by simp [h]
def pJ (n:Nat) (h:List (Q_)):Q_:=h.foldl eU (List.replicate n 0)
theorem FA (n:Nat) (h:List (Q_)) (x:Q_):pJ n (h++[x])=eU (pJ n h) x:=by simp [pJ]
theorem uh (n:Nat) (h:List (Q_)):(pJ n h).length=n:=by
 have:∀(l:List (Q_)) (a:Q_),(l.foldl eU a).length=a.length:=by
  intro l
  induction l with
  | nil=>intro a;rfl
  | cons x l ih=>intro a;rw [List.foldl_cons,ih,gQ]
 unfold pJ;rw [this];simp
def Pt (i:List (Q_)) (n:Nat) (w:R8) (e:Ending) (h:R8):Prop:=∃v ok,e=.returned (.tuple #[v,.bool ok])/\aq w h/\((∀(j:Nat) (x:Q_),i[j]?=some x->x.length=n)->ok=true/\h.ownsRow w.heap.size 2 1 v n (aA .i64 (pJ n i)))
theorem FV (V:N_) (v:List (Q_)) (c n:Nat) (x0:Q_) (w:R8) (hV:dR xp 1 w V v) (hl:v.length<=17592186043904) (h0:v[0]?=some x0) (hn:x0.length=n):Calls prog 21 #[.slice V v.length c] w (Pt v n w):=by
 obtain ⟨N,hN⟩:∃N,v.length=N:=⟨_,rfl⟩;have aP:0<N:=by rw [<-hN];exact (Ri.1 h0).1
 obtain ⟨b,o,A0,c0,rfl,hb,p0,_,a4⟩:=qi hV h0;rw [hN] at hl |-;rw [hn,Nat.add_zero] at p0;rw [hn] at a4;have aM:¬(N=0):=ap;have L:=λw'=>ny ku w' rfl n ap (by unfold maxLen;omega);simp only [fI] at L;obtain ⟨a2,HV,HN⟩:=af L hV hN;clear L hV hN h0 hn;have a9:(0:Int)<N:=ap;have ao:((N:Int)==0)=false:=by simp;omega
 go_enter func21,ntmps21;obtain ⟨W2,Y,a3,a1⟩:=a2.o w;go_wp2_with fail;obtain ⟨D,a8⟩:=ae a3 a1;clear Y a3 a1 p0 a2
 go_loopw [5] (λx wr=>∃k:Nat,k<=N/\x=RI k/\wr.ownsRow w.heap.size 2 1 (.slice (some (ar w.heap.size 0)) n n) n (aA .i64 (pJ n (v.take k)))/\an (∀(j:Nat) (x:Q_),j<k->v[j]?=some x->x.length=n)/\aq w wr) (λx _=>N-(intOf x).toNat)
 .exact ⟨0,QB _,rfl,D.o,aa λj x hj=>ap,a8.o⟩
 case round=>
  obtain ⟨W1,rfl⟩:∃W1:R8,W1=wr:=⟨_,rfl⟩;obtain ⟨k,hk,rfl,u,U,C⟩:=hrel;by_cases a6:k<N
  .obtain ⟨x,hx⟩:∃x,v[k]?=some x:=⟨_,Rj (by rw [HN.o];exact a6)⟩;have ab:(k:Int)<N:=ap;have g1:dR xp 1 W1 (some (ar b o)) v:=HV.o.below Cr C;obtain ⟨b',o',A,cA,e1,aR,p,hA,R⟩:=qi g1 hx;injection e1 with e1;injection e1 with e1 e2 _;subst e1;subst e2
   obtain ⟨HX,HO,O,HA,P⟩:=ah hx u C hA p;obtain ⟨m,hm⟩:∃m,x.length=m:=⟨_,rfl⟩;have Hm:=aa hm;rw [hm] at p R;clear hx u C hA hm g1;by_cases a0:m=n
   .subst a0;go_wp2_with fail;clear p
    go_loopw [6] (λy wr=>∃t:Nat,t<=m/\y=RI t/\wr.ownsRow w.heap.size 2 1 (.slice (some (ar w.heap.size 0)) m m) m (aA .i64 (lD (pJ m (v.take k)) t (λt=>wrap64 (nth (pJ m (v.take k)) t+nth x t))))/\Keep (λi=>i=w.heap.size) W1 wr) (λy _=>m-(intOf y).toNat)
    .exact ⟨0,QB _,rfl,by rw [iU];exact HO.o,Keep.refl _ _⟩
    case round=>
     obtain ⟨t,ht,rfl,u,Q⟩:=hrel;by_cases B:t<m
     .have a7:(t:Int)<m:=ap;have J:t<(pJ m (v.take k)).length:=by rw [uh];exact B
      have p1:=cG u B;rw [ij _ J,if_neg ap] at p1;have f1:=u.frozenAt t;obtain ⟨b2,o2,rfl,p3⟩:=HA.o.num (show t<x.length by rw [Hm.o];exact B);have ad:b<w.heap.size:=hb;have p2:wr.cell? (ar b (o+k))=some (.slice (some (ar b2 o2)) m cA):=Q.cell (by rw [P.o,Hm.o]) (by dsimp only;omega)
      have aG:b2<w.heap.size:=by
       obtain ⟨_,_,A9,c9,I,_,q9,r9,_⟩:=qi HV.o HX.o;injection I with I;injection I with I H _;subst I;subst H
       have:=(O.o.cell (p:=(ar b (o+k))) hb).trans q9;rw [P.o] at this;injection this with this
       simp only [Rv] at this;rw [<-this.1] at r9;obtain ⟨b8,o8,H,q8⟩:=r9.num (show t<x.length by rw [Hm.o];exact B);injection H with H;injection H with H _ _;subst H
       exact aB q8
      have p4:wr.cell? (ar b2 (o2+t))=some (RI (nth x t)):=Q.cell p3 (by dsimp only;omega);have T:=jR (l:=pJ m (v.take k)) (k:=t) (λt=>wrap64 (nth (pJ m (v.take k)) t+nth x t)) J;obtain ⟨HK,D,a5⟩:=af Q u T;clear Q u T J p3;go_wp2_with fail
      go_region
      all_goals go_wp2_with fail
      all_goals
       go_roundw
       case rel=>
        refine ⟨t+1,by omega,by go_num,?_,?_⟩
        .rw [<-a5.o];exact dF (bZ D.o 1) t _
        .exact Keep.setCell (HK.o.drewN 1) (ar w.heap.size t) (.inr rfl) _
       case measure=>simp [intOf];omega
     .obtain rfl:m=t:=ap;obtain ⟨HK,D⟩:=ae Q u;clear Q u;go_wp2_with fail;go_roundw
      case rel=>
       refine ⟨k+1,by omega,by go_num,?_,aa λj y hj Z=>?_,O.o.trans (HK.o.toBelow (by have:=O.o.size;omega) (λj hj=>ap))⟩
       .rw [List.take_add_one,HX.o,Option.toList_some,FA];have I:=D.o;have H:=jS (pJ m (v.take k)) (λt=>wrap64 (nth (pJ m (v.take k)) t+nth x t));rw [uh] at H;unfold eU;rw [uh,<-H];exact I
       .rcases QO j k with h | h
        .exact U.out j y h Z
        .obtain rfl:j=k:=ap;rw [HX.o] at Z;injection Z with Z;rw [<-Z];exact Hm.o
      case measure=>simp [intOf];omega
   .have av:((m:Int) != (n:Int))=true:=by rw [bne_iff_ne];omega
    go_wp2_with fail;go_ret2;refine ⟨_,_,rfl,O.o,λh=>absurd ?_ a0⟩;rw [<-Hm.o];exact h k x HX.o
  .obtain rfl:k=N:=ap;obtain ⟨HO,O⟩:=ae u C;clear u C;go_wp2_with fail;go_ret2;refine ⟨_,_,rfl,O.o,λh=>⟨rfl,?_⟩⟩;have:=HO.o
   rwa [<-HN.o,Rt] at this
theorem LX:dN prog 281 286 (.agg #[RI 0,RI 0,RI 0]) 3 24:=⟨underlying281,info_parts (by kernel_rfl),rfl,by decide⟩
theorem zX (A:N_) (sz:Q_) (c:Nat) (w:R8) (hA:Rd w A (aA .i64 sz)) (hg:dY sz):Calls prog 171 #[.slice A sz.length c] w λe w'=>∃A' c',e=.returned (.slice A' (bS sz (sz.length-1)) c')/\w'.ownsRow w.heap.size 286 3 (.slice A' (bS sz (sz.length-1)) c') (bS sz (sz.length-1)) (plV (plL sz (sz.length-1)))/\aq w w':=by
 have ab:=hg.1.1;obtain ⟨b,o,rfl,a6⟩:=hA.num (show 0<sz.length by omega);have J:b<w.heap.size:=aB a6;obtain ⟨L,hL⟩:∃L,sz.length=L:=⟨_,rfl⟩;rw [hL] at ab |-;obtain ⟨HA,HG,HL⟩:=af hA hg hL;clear hA hg hL a6;go_enter func171,ntmps171;go_wp2_with fail
 go_loopw [3,4] (λv i wr=>∃k:Nat,k+1<=L/\i=RI k/\wr.ownsRow w.heap.size 286 3 v (bS sz k) (plV (plL sz k))/\aq w wr) (λ_ i _=>L-(intOf i).toNat)
 .exact ⟨0,by omega,rfl,QI _ _ _ _,QA _ _⟩
 case round=>
  obtain ⟨wq,rfl⟩:∃wq:R8,wq=wr:=⟨_,rfl⟩;obtain ⟨k,hk,rfl,T,a9⟩:=hrel;obtain ⟨A0,c9,rfl,_⟩:=aD T;obtain ⟨a2,av⟩:=ae T a9;clear T a9;have b9:IntKind.i64.wrap ((k:Int)+1)=(k:Int)+1:=QC _ ap;by_cases be:k+1<L
  .have hR:=HG.o.1;have b5:=HL.o;have z0:=hR.at (k:=k) ap;have z1:=hR.at (k:=k+1) ap;obtain ⟨_,_,e',p0⟩:=HA.o.num (show k<sz.length by omega);injection e' with e';injection e' with e1 e2 _;subst e1;subst e2
   obtain ⟨_,_,e',p1⟩:=HA.o.num (show k+1<sz.length by omega);injection e' with e';injection e' with e1 e2 _;subst e1;subst e2
   rw [z0.2.2] at p0;rw [z1.2.2] at p1;have b7:=HG.o.bound (k:=k+1) ap;have hm:=fR sz k;have x:dM sz k=bS sz k+szN sz (k+1)*szN sz k:=rfl;have R:plK sz k=plW k (szN sz k) (szN sz (k+1)*szN sz k)++plB k (szN sz (k+1)):=rfl;obtain ⟨c0,a7⟩:∃c0,szN sz k=c0:=⟨_,rfl⟩;obtain ⟨Q,a3⟩:∃Q,szN sz (k+1)=Q:=⟨_,rfl⟩;obtain ⟨N,hN⟩:∃N,bS sz k=N:=⟨_,rfl⟩;obtain ⟨M,hM⟩:∃M,dM sz k=M:=⟨_,rfl⟩;rw [a7] at p0 x R z0;rw [a3] at p1 x hm R z1;rw [hN,hM] at x;rw [hM] at hm;rw [<-hm] at b7;obtain ⟨b6,HN,Hm⟩:=af R hN hm;have b3:(k:Int)+1<L:=ap;have b8:(k:Int)<L:=ap;clear a7 a3 R hm hN hM b5 hR;go_wp2_with fail
   go_loopw [3,5] (λv i wr=>∃r:Nat,r<=Q/\i=RI r/\wr.ownsRow w.heap.size 286 3 v (N+r*c0) (plV (plL sz k++plW k c0 (r*c0)))/\aq w wr) (λ_ i _=>Q-(intOf i).toNat)
   case atStart=>
    refine ⟨0,QB _,rfl,?_,av.o⟩;rw [Nat.zero_mul,show plW k c0 0=[] from rfl,List.append_nil,Nat.add_zero,<-HN.o];exact a2.o
   case round=>
    obtain ⟨w1,rfl⟩:∃w1:R8,w1=wr:=⟨_,rfl⟩;obtain ⟨r,hr,rfl,a0,O⟩:=hrel;obtain ⟨A1,d1,rfl,_⟩:=aD a0;have ao:=(O.cell (p:=(ar b (o+k))) J).trans p0;have a4:=(O.cell (p:=⟨b,o+(k+1),none⟩) J).trans p1;obtain ⟨aM,ad⟩:=ae a0 O;clear a0 O;by_cases bb:r<Q
    .have a8:r*c0+c0<=Q*c0:=by
      have:=RH c0 (show r+1<=Q by omega)
      rwa [Ry] at this
     have a1:(r+1)*c0=r*c0+c0:=Ry r c0;obtain ⟨rc,D⟩:∃rc,r*c0=rc:=⟨_,rfl⟩;obtain ⟨m1,aG⟩:∃m1,Q*c0=m1:=⟨_,rfl⟩;have V:=λj (hj:j<c0)=>Kv k c0 r j hj;rw [D] at a8 a1 V;rw [aG] at a8 x;obtain ⟨b4,b0,aR⟩:=af V a1 D;clear V a1 D aG;go_wp2_with fail
     go_loopw [3,6] (λv i wr=>∃j:Nat,j<=c0/\i=RI j/\wr.ownsRow w.heap.size 286 3 v (N+(rc+j)) (plV (plL sz k++plW k c0 (rc+j)))/\aq w wr) (λ_ i _=>c0-(intOf i).toNat)
     case atStart=>
      refine ⟨0,QB _,rfl,?_,ad.o⟩;rw [Nat.add_zero,<-aR.o];exact aM.o
     case round=>
      obtain ⟨w2,rfl⟩:∃w2:R8,w2=wr:=⟨_,rfl⟩;obtain ⟨j,hj,rfl,u,h⟩:=hrel;obtain ⟨A2,d2,rfl,_⟩:=aD u;have bh:=(h.cell (p:=(ar b (o+k))) J).trans p0;have hz:=h.size;obtain ⟨y,B⟩:=ae u h;clear u h ao a4;by_cases a5:j<c0
      .have aP:=b4.o j a5;have b1:=aa aP;clear aP;go_wp2_with (at_builtin;refine aX LX w2 rfl (.tmp 32) (.tmp 37) rfl w.heap.size (.slice A2 (N+(rc+j)) d2) (N+(rc+j)) _ rfl y.o [RI k,RI r,RI j] rfl rfl (by simp [Value.oneCell']) ap (by unfold maxLen;omega) ap ?_);intro g7 c7 w7 C I Y;have H:=B.o.trans I;obtain ⟨U,Z⟩:=ae C H;clear C I Y H;go_wp2_with fail;go_roundw
       case rel=>
        refine ⟨j+1,by omega,by go_num,?_,Z.o⟩;have:=U.o;rw [<-Ev (k,r,(j:Int)),<-uE,Ro,<-b1.o,show N+(rc+j)+1=N+(rc+(j+1)) by omega,show rc+j+1=rc+(j+1) by omega] at this;exact this
       case measure=>simp [intOf];omega
      .obtain rfl:j=c0:=ap;go_wp2_with fail;go_roundw
       case rel=>
        refine ⟨r+1,by omega,by go_num,?_,B.o⟩;rw [b0.o];exact y.o
       case measure=>simp [intOf];omega
    .obtain rfl:r=Q:=ap;have b2:=aa x;clear x;go_wp2_with fail
     go_loopw [3,7] (λv i wr=>∃t:Nat,t<=r/\i=RI t/\wr.ownsRow w.heap.size 286 3 v (M+t) (plV (plL sz k++plW k c0 (r*c0)++plB k t))/\aq w wr) (λ_ i _=>r-(intOf i).toNat)
     case atStart=>
      refine ⟨0,QB _,rfl,?_,ad.o⟩;rw [show plB k 0=[] from rfl,List.append_nil,Nat.add_zero,b2.o];exact aM.o
     case round=>
      obtain ⟨w2,rfl⟩:∃w2:R8,w2=wr:=⟨_,rfl⟩;obtain ⟨t,ht,rfl,u,h⟩:=hrel;obtain ⟨A2,d2,rfl,_⟩:=aD u;have bf:=(h.cell (p:=⟨b,o+(k+1),none⟩) J).trans p1;have hz:=h.size;obtain ⟨y,B⟩:=ae u h;clear u h ao a4;by_cases a5:t<r
      .go_wp2_with (at_builtin;refine aX LX w2 rfl (.tmp 48) (.tmp 52) rfl w.heap.size (.slice A2 (M+t) d2) (M+t) _ rfl y.o [RI k,RI t,RI (-1)] rfl rfl (by simp [Value.oneCell']) ap (by unfold maxLen;omega) ap ?_);intro g7 c7 w7 C I Y;have H:=B.o.trans I;obtain ⟨U,Z⟩:=ae C H;clear C I Y H;go_wp2_with fail;go_roundw
       case rel=>
        refine ⟨t+1,by omega,by go_num,?_,Z.o⟩;have:=U.o;rw [<-Ev (k,t, -1),<-uE,show M+t+1=M+(t+1) by omega] at this;rw [Kw];simp only [Ro] at this |-;exact this
       case measure=>simp [intOf];omega
      .obtain rfl:t=r:=ap;go_wp2_with fail;go_roundw
       case rel=>
        refine ⟨k+1,by omega,by go_num,?_,B.o⟩;rw [AB,b6.o,<-Ro,<-Hm.o];exact y.o
       case measure=>simp [intOf];omega
  .obtain rfl:k=L-1:=ap;have b3:¬((((L-1:Nat):Int)+1)<L):=ap;go_wp2_with fail;go_ret;exact ⟨_,_,rfl,a2.o,av.o⟩
end Go.Proofs.YtindmkcnjlgomaaGreat
