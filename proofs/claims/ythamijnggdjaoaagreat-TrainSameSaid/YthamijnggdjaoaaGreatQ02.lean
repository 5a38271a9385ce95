/- No condition. -/
import Derived.Test.YthamijnggdjaoaaGreatQ01
import Derived.WalkSpells
import Derived.StillTailTactics
import Derived.RangeFuncNested
import Derived.RangeFuncBound
import Derived.RangeFuncCalls
import Derived.RangeFuncLeaves
import Derived.RangeFuncBox
import Derived.Shelf.Abstract
import Derived.OwnWalkIn
import Derived.TacticsInMore
import Derived.LoopNIn
import Derived.LoopIn
import Derived.Deep.DeepCutAuto
set_option linter.unusedSimpArgs false
set_option linter.unusedVariables false
set_option maxRecDepth 100000
set_option maxHeartbeats 4000000
namespace Go.Proofs.YthamijnggdjaoaaGreat
open Go.RowKit
open Tryz
theorem kK (a g:Int) (w:N6):Calls prog 144 #[yY a,yY g] w fun e w'=>e=.returned (yY (if 0<a then g else 0))/\w=w':=by
 by_cases h:0<a
 ·rw [if_pos h];go_enter func144,ntmps144;go_wp2;go_ret;exact ⟨rfl,rfl⟩
 ·rw [if_neg h];go_enter func144,ntmps144;go_wp2;go_ret;exact ⟨rfl,rfl⟩
def pb (b:Int) (k:Nat):Int:=if k<=63 then uw b%2^k else b
def rHi (a b:Int) (k:Nat):Int:=uw (a*pb b k/18446744073709551616)
def rLo (a b:Int) (k:Nat):Int:=uw (a*pb b k)
theorem sa (N X:Int):uw (uw N+uw X)=uw (N+X):=by unfold uw;omega
theorem uR (N X:Int) (h:¬uw (uw N+uw X)<uw N):uw (uw (N/18446744073709551616)+uw (X/18446744073709551616))=uw ((N+X)/18446744073709551616):=by unfold uw at *;omega
theorem uQ (N X:Int) (h:uw (uw N+uw X)<uw N):uw (uw (uw (N/18446744073709551616)+1)+uw (X/18446744073709551616))=uw ((N+X)/18446744073709551616):=by unfold uw at *;omega
theorem lf (X:Int):uw (18446744073709551615-uw X+1)=uw (-X):=by unfold uw;omega
theorem ns (X:Int) (h:¬uw (-X)=0):18446744073709551615-uw (X/18446744073709551616)=uw (-X/18446744073709551616):=by unfold uw at *;omega
theorem nr (X:Int) (h:uw (-X)=0):uw (18446744073709551615-uw (X/18446744073709551616)+1)=uw (-X/18446744073709551616):=by unfold uw at *;omega
theorem dW (x:Int):IntKind.u64.wrap x=uw x:=by rw [IntKind.wrap_u64];rfl
theorem vT (x:Int) (h:0<=x/\x<18446744073709551616):bits .and .u64 x 1=x%2:=by
 obtain ⟨n,rfl⟩:=Int.eq_ofNat_of_zero_le h.1;have a:=bits_and_u64_nat n 1 am am;have e:n&&& 1=n%2:=Nat.and_one_is_mod n;rw [e] at a;simpa using a
theorem jr (x:Int) (h:0<=x/\x<18446744073709551616):bits .xor .u64 (if IntKind.u64.signed=true then -1 else IntKind.u64.max) x=18446744073709551615-x:=by
 obtain ⟨n,rfl⟩:=Int.eq_ofNat_of_zero_le h.1;have i:n<18446744073709551616:=am;have e:bits .xor .u64 (if IntKind.u64.signed=true then -1 else IntKind.u64.max) (n:Int)=IntKind.u64.wrap ((BitVec.ofInt 64 18446744073709551615^^^BitVec.ofInt 64 (n:Int)).toNat:Int):=rfl;have a:BitVec.ofInt 64 18446744073709551615=BitVec.allOnes 64:=by decide
 have g:(BitVec.ofInt 64 (n:Int)).toNat=n:=by rw [BitVec.ofInt_natCast,BitVec.toNat_ofNat];exact Nat.mod_eq_of_lt am
 rw [e,a,BitVec.allOnes_xor,BitVec.toNat_not,g,dW];unfold uw;omega
theorem tC (m k:Nat) (y:Nat) (e:y<2^k) (h:2^k*m<18446744073709551616) (g:k<=64):bits .or .u64 ((2^k*m:Nat):Int) (y:Int)=((2^k*m:Nat):Int)+(y:Int):=by
 have a:y<18446744073709551616:=ye e (by have:=Nat.pow_le_pow_right (n:=2) (by decide) g;simpa using this);rw [bits_or_u64_nat _ _ h a,<-Nat.two_pow_add_eq_or_of_lt e];simp
theorem rn (k:Nat) (a:k<=64):(18446744073709551616:Int)=2^(64-k)*2^k:=by rw [<-Int.pow_add,show 64-k+k=64 by omega];rfl
theorem oQ (k:Nat) (a:k<=64):(18446744073709551616:Nat)=2^(64-k)*2^k:=by rw [<-Nat.pow_add,show 64-k+k=64 by omega]
theorem wh (a:Int) (k:Nat):IntKind.u64.wrap (IntKind.u64.wrap a*2^k)=uw (a*2^k):=by
 rw [dW,dW];unfold uw;rw [Int.mul_emod,Int.emod_emod_of_dvd _ (Int.dvd_refl _),<-Int.mul_emod]
theorem pN (a:Int) (k:Nat) (A:0<k) (y:k<=63) (H: -9223372036854775808<=a/\a<=9223372036854775807) (S:Int) (D:(S=18446744073709551615/\a<0)\/(S=0/\0<=a)):
  bits .or .u64 (IntKind.u64.wrap (S*2^k)) (IntKind.u64.wrap a/2^(64-k))=uw (a*2^k/18446744073709551616):=by
 obtain ⟨U,i,C⟩:=iQ a;have m:=rn k am;have e:=oQ k am;have x:(0:Int)<2^(64-k):=Int.pow_pos (by decide);have g:(0:Int)<2^k:=Int.pow_pos (by decide)
 have q:a*2^k/18446744073709551616=a/2^(64-k):=by
  rw [m];exact Int.mul_ediv_mul_of_pos_left _ _ g
 have v:U/2^(64-k)<2^k:=by
  rw [Nat.div_lt_iff_lt_mul (Nat.pow_pos (by decide)),Nat.mul_comm];omega
 have p:IntKind.u64.wrap a/2^(64-k)=((U/2^(64-k):Nat):Int):=by rw [dW,i];simp
 have E:2^k<=9223372036854775808:=by have:=Nat.pow_le_pow_right (n:=2) (by decide) y;simpa using this
 have u:0<2^k:=Nat.pow_pos (by decide);rw [q,p];rcases D with ⟨rfl,h⟩ | ⟨rfl,h⟩
 ·have hw:IntKind.u64.wrap (18446744073709551615*2^k)=((2^k*(2^(64-k)-1):Nat):Int):=by
   have B:((2^k*(2^(64-k)-1):Nat):Int)=18446744073709551616-2^k:=by
    have G:2^k*(2^(64-k)-1)+2^k=18446744073709551616:=by
     rw [<-Nat.mul_succ,Nat.succ_eq_add_one,Nat.sub_add_cancel (Nat.pow_pos (by decide)),Nat.mul_comm];exact e.symm
    have F:((2^k:Nat):Int)=2^k:=by simp
    omega
   rw [B,dW];unfold uw;have o:((2^k:Nat):Int)=2^k:=by simp
   omega
  rw [hw,tC _ _ _ v (by rw [e,Nat.mul_comm];exact Nat.mul_lt_mul_of_pos_right (by have:0<2^(64-k):=Nat.pow_pos (by decide);omega) u) am,<-hw,dW]
  have j:a=(U:Int)+(-(2^k))*2^(64-k):=by
   have:(2:Int)^k*2^(64-k)=18446744073709551616:=by rw [Int.mul_comm];exact m.symm
   rw [Int.neg_mul,this];unfold uw at i;omega
  rw [j,Int.add_mul_ediv_right _ _ am];have l:((U/2^(64-k):Nat):Int)=(U:Int)/2^(64-k):=by simp
  rw [<-l];have o:(2:Int)^k=((2^k:Nat):Int):=by simp
  rw [o];generalize U/2^(64-k)=Y at *;generalize 2^k=P at *;clear q p hw j l m e x g o i;unfold uw;omega
 ·have hw:IntKind.u64.wrap (0*2^k)=((2^k*0:Nat):Int):=by rw [Int.zero_mul];rfl
  rw [hw,tC _ _ _ v (by simp) am];have j:a=(U:Int):=by unfold uw at i;omega
  rw [j];have l:((U/2^(64-k):Nat):Int)=(U:Int)/2^(64-k):=by simp
  rw [<-l];generalize U/2^(64-k)=Y at *;generalize 2^k=P at *;clear q p hw j l m e x g i;unfold uw;omega
theorem sV (a:Int) (k:Nat) (g:k<=0) (e: -9223372036854775808<=a/\a<=9223372036854775807) (S:Int) (h:(S=18446744073709551615/\a<0)\/(S=0/\0<=a)):S=uw (a*2^k/18446744073709551616):=by
 obtain rfl:k=0:=am;unfold uw;rw [Int.pow_zero,Int.mul_one];omega
theorem uH (b:Int) (k:Nat) (h:k<64):bits .and .u64 (IntKind.u64.wrap b/2^k) 1=uw b/2^k%2:=by
 rw [dW];obtain ⟨V,g,e⟩:=iQ b;rw [g];have a:(V:Int)/2^k=((V/2^k:Nat):Int):=by simp
 rw [a];have i:=Nat.div_le_self V (2^k);generalize V/2^k=Z at *;exact vT _ ⟨by omega,by omega⟩
theorem gD (b:Int) (k:Nat) (g:k<63):pb b (k+1)=pb b k+(uw b/2^k%2)*2^k:=by
 unfold pb;rw [if_pos am,if_pos am];obtain ⟨V,e,_⟩:=iQ b;rw [e];have h:=Nat.mod_pow_succ (b:=2) (x:=V) (k:=k);have a:((V%2^(k+1):Nat):Int)=(V:Int)%2^(k+1):=by simp
 rw [<-a,h];simp [Int.mul_comm]
theorem ju (b:Int) (a: -9223372036854775808<=b/\b<=9223372036854775807):pb b 64=pb b 63-(uw b/2^63%2)*2^63:=by
 unfold pb;rw [if_neg am,if_pos am];unfold uw;omega
theorem xz (b:Int):pb b 0=0:=by unfold pb;rw [if_pos am,Int.pow_zero];omega
theorem pX (b:Int):pb b 64=b:=by unfold pb;rw [if_neg am]
theorem th {a b:Int} {k:Nat} (h:pb b (k+1)=pb b k):rHi a b k=rHi a b (k+1)/\rLo a b k=rLo a b (k+1):=by unfold rHi rLo;rw [h];exact ⟨rfl,rfl⟩
theorem kO {a b X:Int} {k:Nat} (h:a*pb b (k+1)=a*pb b k+X) (i g:Int) (l:i=uw X) (j:g=uw (X/18446744073709551616)):
  IntKind.u64.wrap (rLo a b k+i)=rLo a b (k+1)/\(rLo a b (k+1)<rLo a b k->IntKind.u64.wrap (IntKind.u64.wrap (rHi a b k+1)+g)=rHi a b (k+1))/\(¬rLo a b (k+1)<rLo a b k->IntKind.u64.wrap (rHi a b k+g)=rHi a b (k+1)):=by
 subst l;subst j;simp only [dW];unfold rHi rLo;rw [h];have e:=sa (a*pb b k) X;refine ⟨e,fun hc=>?_,fun hc=>?_⟩
 ·exact uQ _ _ (by rw [e];exact hc)
 ·exact uR _ _ (by rw [e];exact hc)
theorem qS (a b:Int) (w:N6) (B: -9223372036854775808<=a/\a<=9223372036854775807) (C: -9223372036854775808<=b/\b<=9223372036854775807):Calls prog 141 #[yY a,yY b] w fun e w'=>e=.returned (.tuple #[yY (cH a b),.int .u64 (dz a b)])/\w=w':=by
 by_cases J:a<0
 ·have x:rHi a b 0=0/\rLo a b 0=0:=by unfold rHi rLo;rw [xz,Int.mul_zero];exact ⟨rfl,rfl⟩
  have A:=aa x;clear x;go_enter func141,ntmps141;go_wp2_with fail
  go_loop [6,7,9] (fun h l i=>∃k:Nat,k<=64/\i=yY k/\h=.int .u64 (rHi a b k)/\l=.int .u64 (rLo a b k)) (fun _ _ i=>64-(intOf i).toNat)
  ·exact ⟨0,by omega,rfl,by rw [A.o.1],by rw [A.o.2]⟩
  case round=>
   obtain ⟨k,U,rfl,rfl,rfl⟩:=hrel;have p:=aa J;clear J;by_cases D:k<64
   ·have g:=uH b k D;obtain ⟨t,n⟩:∃t,uw b/2^k%2=t:=⟨_,rfl⟩;have F:t=0\/t=1:=am;rw [n] at g;rcases F with L | Q
    ·subst L
     have v:pb b (k+1)=pb b k:=by
      rcases yl k 63 with h | h
      ·rw [gD b k h,n];omega
      ·obtain rfl:k=63:=am;rw [ju b C,n];omega
     have R:(bits .and .u64 (IntKind.u64.wrap b/2^k) 1==0)=true:=by rw [g];rfl
     have hr:=th (a:=a) v;have G:=aa hr;clear hr v n g;go_wp2_with fail;go_round
     ·exact ⟨k+1,by omega,by go_num,by rw [G.o.1],by rw [G.o.2]⟩
     ·simp [intOf];omega
    ·subst Q;have S:(bits .and .u64 (IntKind.u64.wrap b/2^k) 1==0)=false:=by rw [g];rfl
     have V:=wh a k;rcases (show k<=0\/(0<k/\k<63)\/63<=k by omega) with h | ⟨h,N⟩ | h
     ·have hr:=kO (a:=a) (b:=b) (k:=k) (X:=a*2^k) (by rw [gD b k am,n,Int.mul_add,Int.one_mul]) (uw (a*2^k)) (18446744073709551615) rfl (sV a k h B _ (.inl ⟨rfl,p.o⟩));have y:((k:Int)==63)=false:=by simp;omega
      clear n g;obtain ⟨E,j,m⟩:=hr;by_cases hc:rLo a b (k+1)<rLo a b k
      ·have q:=j hc;clear j m;go_wp2_with fail;go_round
       ·exact ⟨k+1,by omega,by go_num,rfl,rfl⟩
       ·simp [intOf];omega
      ·have q:=m hc;clear j m;go_wp2_with fail;go_round
       ·exact ⟨k+1,by omega,by go_num,rfl,rfl⟩
       ·simp [intOf];omega
     ·have H:=pN a k h am B (18446744073709551615) (.inl ⟨rfl,p.o⟩);have hr:=kO (a:=a) (b:=b) (k:=k) (X:=a*2^k) (by rw [gD b k N,n,Int.mul_add,Int.one_mul]) (uw (a*2^k)) (uw (a*2^k/18446744073709551616)) rfl rfl;have y:((k:Int)==63)=false:=by simp;omega
      clear n g;obtain ⟨E,j,m⟩:=hr;by_cases hc:rLo a b (k+1)<rLo a b k
      ·have q:=j hc;clear j m;go_wp2_with fail;go_round
       ·exact ⟨k+1,by omega,by go_num,rfl,rfl⟩
       ·simp [intOf];omega
      ·have q:=m hc;clear j m;go_wp2_with fail;go_round
       ·exact ⟨k+1,by omega,by go_num,rfl,rfl⟩
       ·simp [intOf];omega
     ·have H:=pN a k am am B (18446744073709551615) (.inl ⟨rfl,p.o⟩);have W:=jr (uw (a*2^k)) (jf _);have Y:=jr (uw (a*2^k/18446744073709551616)) (jf _);have T:IntKind.u64.wrap (18446744073709551615-uw (a*2^k)+1)=uw (-(a*2^k)):=by rw [dW];exact lf _
      have y:((k:Int)==63)=true:=by simp;omega
      have hr:=kO (a:=a) (b:=b) (k:=k) (X:= -(a*2^k)) (by obtain rfl:k=63:=am;rw [ju b C,n,Int.mul_sub,Int.one_mul];omega) (uw (-(a*2^k))) (uw (-(a*2^k)/18446744073709551616)) rfl rfl;clear n g;by_cases u:uw (-(a*2^k))=0
      ·have O:IntKind.u64.wrap (18446744073709551615-uw (a*2^k/18446744073709551616)+1)=uw (-(a*2^k)/18446744073709551616):=by rw [dW];exact nr _ u
       have K:(uw (-(a*2^k))==0)=true:=by rw [u];rfl
       clear u;obtain ⟨E,j,m⟩:=hr;by_cases hc:rLo a b (k+1)<rLo a b k
       ·have q:=j hc;clear j m;go_wp2_with fail;go_round
        ·exact ⟨k+1,by omega,by go_num,rfl,rfl⟩
        ·simp [intOf];omega
       ·have q:=m hc;clear j m;go_wp2_with fail;go_round
        ·exact ⟨k+1,by omega,by go_num,rfl,rfl⟩
        ·simp [intOf];omega
      ·have O:18446744073709551615-uw (a*2^k/18446744073709551616)=uw (-(a*2^k)/18446744073709551616):=ns _ u;have K:(uw (-(a*2^k))==0)=false:=by simpa using u
       clear u;obtain ⟨E,j,m⟩:=hr;by_cases hc:rLo a b (k+1)<rLo a b k
       ·have q:=j hc;clear j m;go_wp2_with fail;go_round
        ·exact ⟨k+1,by omega,by go_num,rfl,rfl⟩
        ·simp [intOf];omega
       ·have q:=m hc;clear j m;go_wp2_with fail;go_round
        ·exact ⟨k+1,by omega,by go_num,rfl,rfl⟩
        ·simp [intOf];omega
   ·obtain rfl:k=64:=am
    have I:wrap64 (rHi a b 64)=cH a b:=by
     unfold rHi;rw [pX,iP];exact gh (ep B C).1 (ep B C).2
    have hl:rLo a b 64=dz a b:=by unfold rLo dz;rw [pX]
    obtain ⟨M,P⟩:=ab I hl;clear I hl;rw [show (((64:Nat):Int))=64 from rfl];go_wp2_with fail;go_ret2;exact ⟨by rw [M.o,P.o];rfl,rfl⟩
 ·have x:rHi a b 0=0/\rLo a b 0=0:=by unfold rHi rLo;rw [xz,Int.mul_zero];exact ⟨rfl,rfl⟩
  have A:=aa x;clear x;go_enter func141,ntmps141;go_wp2_with fail
  go_loop [6,7,9] (fun h l i=>∃k:Nat,k<=64/\i=yY k/\h=.int .u64 (rHi a b k)/\l=.int .u64 (rLo a b k)) (fun _ _ i=>64-(intOf i).toNat)
  ·exact ⟨0,by omega,rfl,by rw [A.o.1],by rw [A.o.2]⟩
  case round=>
   obtain ⟨k,U,rfl,rfl,rfl⟩:=hrel;have p:=aa J;clear J;by_cases D:k<64
   ·have g:=uH b k D;obtain ⟨t,n⟩:∃t,uw b/2^k%2=t:=⟨_,rfl⟩;have F:t=0\/t=1:=am;rw [n] at g;rcases F with L | Q
    ·subst L
     have v:pb b (k+1)=pb b k:=by
      rcases yl k 63 with h | h
      ·rw [gD b k h,n];omega
      ·obtain rfl:k=63:=am;rw [ju b C,n];omega
     have R:(bits .and .u64 (IntKind.u64.wrap b/2^k) 1==0)=true:=by rw [g];rfl
     have hr:=th (a:=a) v;have G:=aa hr;clear hr v n g;go_wp2_with fail;go_round
     ·exact ⟨k+1,by omega,by go_num,by rw [G.o.1],by rw [G.o.2]⟩
     ·simp [intOf];omega
    ·subst Q;have S:(bits .and .u64 (IntKind.u64.wrap b/2^k) 1==0)=false:=by rw [g];rfl
     have V:=wh a k;rcases (show k<=0\/(0<k/\k<63)\/63<=k by omega) with h | ⟨h,N⟩ | h
     ·have hr:=kO (a:=a) (b:=b) (k:=k) (X:=a*2^k) (by rw [gD b k am,n,Int.mul_add,Int.one_mul]) (uw (a*2^k)) (0) rfl (sV a k h B _ (.inr ⟨rfl,by have:=p.o;omega⟩));simp only [Int.add_zero] at hr;have y:((k:Int)==63)=false:=by simp;omega
      clear n g;obtain ⟨E,j,m⟩:=hr;by_cases hc:rLo a b (k+1)<rLo a b k
      ·have q:=j hc;clear j m;go_wp2_with fail;go_round
       ·exact ⟨k+1,by omega,by go_num,rfl,rfl⟩
       ·simp [intOf];omega
      ·have q:=m hc;clear j m;go_wp2_with fail;go_round
       ·exact ⟨k+1,by omega,by go_num,rfl,rfl⟩
       ·simp [intOf];omega
     ·have H:=pN a k h am B (0) (.inr ⟨rfl,by have:=p.o;omega⟩);rw [Int.zero_mul,show IntKind.u64.wrap 0=0 from rfl] at H;have hr:=kO (a:=a) (b:=b) (k:=k) (X:=a*2^k) (by rw [gD b k N,n,Int.mul_add,Int.one_mul]) (uw (a*2^k)) (uw (a*2^k/18446744073709551616)) rfl rfl;have y:((k:Int)==63)=false:=by simp;omega
      clear n g;obtain ⟨E,j,m⟩:=hr;by_cases hc:rLo a b (k+1)<rLo a b k
      ·have q:=j hc;clear j m;go_wp2_with fail;go_round
       ·exact ⟨k+1,by omega,by go_num,rfl,rfl⟩
       ·simp [intOf];omega
      ·have q:=m hc;clear j m;go_wp2_with fail;go_round
       ·exact ⟨k+1,by omega,by go_num,rfl,rfl⟩
       ·simp [intOf];omega
     ·have H:=pN a k am am B (0) (.inr ⟨rfl,by have:=p.o;omega⟩);rw [Int.zero_mul,show IntKind.u64.wrap 0=0 from rfl] at H;have W:=jr (uw (a*2^k)) (jf _);have Y:=jr (uw (a*2^k/18446744073709551616)) (jf _);have T:IntKind.u64.wrap (18446744073709551615-uw (a*2^k)+1)=uw (-(a*2^k)):=by rw [dW];exact lf _
      have y:((k:Int)==63)=true:=by simp;omega
      have hr:=kO (a:=a) (b:=b) (k:=k) (X:= -(a*2^k)) (by obtain rfl:k=63:=am;rw [ju b C,n,Int.mul_sub,Int.one_mul];omega) (uw (-(a*2^k))) (uw (-(a*2^k)/18446744073709551616)) rfl rfl;clear n g;by_cases u:uw (-(a*2^k))=0
      ·have O:IntKind.u64.wrap (18446744073709551615-uw (a*2^k/18446744073709551616)+1)=uw (-(a*2^k)/18446744073709551616):=by rw [dW];exact nr _ u
       have K:(uw (-(a*2^k))==0)=true:=by rw [u];rfl
       clear u;obtain ⟨E,j,m⟩:=hr;by_cases hc:rLo a b (k+1)<rLo a b k
       ·have q:=j hc;clear j m;go_wp2_with fail;go_round
        ·exact ⟨k+1,by omega,by go_num,rfl,rfl⟩
        ·simp [intOf];omega
       ·have q:=m hc;clear j m;go_wp2_with fail;go_round
        ·exact ⟨k+1,by omega,by go_num,rfl,rfl⟩
        ·simp [intOf];omega
      ·have O:18446744073709551615-uw (a*2^k/18446744073709551616)=uw (-(a*2^k)/18446744073709551616):=ns _ u;have K:(uw (-(a*2^k))==0)=false:=by simpa using u
       clear u;obtain ⟨E,j,m⟩:=hr;by_cases hc:rLo a b (k+1)<rLo a b k
       ·have q:=j hc;clear j m;go_wp2_with fail;go_round
        ·exact ⟨k+1,by omega,by go_num,rfl,rfl⟩
        ·simp [intOf];omega
       ·have q:=m hc;clear j m;go_wp2_with fail;go_round
        ·exact ⟨k+1,by omega,by go_num,rfl,rfl⟩
        ·simp [intOf];omega
   ·obtain rfl:k=64:=am
    have I:wrap64 (rHi a b 64)=cH a b:=by
     unfold rHi;rw [pX,iP];exact gh (ep B C).1 (ep B C).2
    have hl:rLo a b 64=dz a b:=by unfold rLo dz;rw [pX]
    obtain ⟨M,P⟩:=ab I hl;clear I hl;rw [show (((64:Nat):Int))=64 from rfl];go_wp2_with fail;go_ret2;exact ⟨by rw [M.o,P.o];rfl,rfl⟩
def sHi (N:Int) (k:Nat):Int:=N/2^k/18446744073709551616
def sLo (N:Int) (k:Nat):Int:=uw (N/2^k)
theorem lk (N:Int) (k:Nat):N/2^(k+1)=N/2^k/2:=by
 rw [Int.pow_succ,<-Int.ediv_ediv_of_nonneg];exact Int.le_of_lt (Int.pow_pos (by decide))
theorem mR (N:Int) (k:Nat):sHi N (k+1)=sHi N k/2:=by unfold sHi;rw [lk];omega
theorem rx (x y:Int):bits .or .u64 x y=bits .or .u64 y x:=by
 show IntKind.u64.wrap ((BitVec.ofInt 64 x||| BitVec.ofInt 64 y).toNat:Int)=IntKind.u64.wrap ((BitVec.ofInt 64 y||| BitVec.ofInt 64 x).toNat:Int)
 rw [BitVec.or_comm]
theorem sW (N:Int) (k:Nat):bits .or .u64 (sLo N k/2) (IntKind.u64.wrap (IntKind.u64.wrap (sHi N k)*9223372036854775808))=sLo N (k+1):=by
 have h:=mO (sHi N k) (sLo N k) 1 am (jf _);rw [rx];simp only [Int.pow_one,show (64-1:Nat)=63 from rfl,show (2:Int)^63=9223372036854775808 from rfl] at h;rw [h];unfold sLo sHi;rw [lk];unfold uw;omega
theorem wI (N:Int) (k:Nat) (a: -170141183460469231731687303715884105728<=N/\N<=170141183460469231731687303715884105727): -9223372036854775808<=sHi N k/\sHi N k<=9223372036854775807:=by
 induction k with
 | zero=>unfold sHi;rw [Int.pow_zero];omega
 | succ k ih=>rw [mR];omega
theorem oJ (N:Int) (q:Nat) (w:N6) (y:q<=62) (m: -170141183460469231731687303715884105728<=N/\N<=170141183460469231731687303715884105727):Calls prog 142 #[yY (N/18446744073709551616),.int .u64 (uw N),yY q] w fun e w'=>e=.returned (yY (wrap64 (N/2^q)))/\w=w':=by
 have a:N/18446744073709551616=sHi N 0/\uw N=sLo N 0:=by unfold sHi sLo;rw [Int.pow_zero,Int.ediv_one];exact ⟨rfl,rfl⟩
 rw [a.1,a.2];have u:=aa m;clear a m;go_enter func142,ntmps142;go_wp2_with fail
 go_loop [0,1,7] (fun h l i=>∃k:Nat,k<=q/\i=yY k/\h=yY (sHi N k)/\l=.int .u64 (sLo N k)) (fun _ _ i=>q-(intOf i).toNat)
 ·exact ⟨0,yb _,rfl,rfl,rfl⟩
 case round=>
  obtain ⟨k,x,rfl,rfl,rfl⟩:=hrel;have B:=wI N k u.o;by_cases p:k<q
  ·have A:=sW N k;have j:=mR N k;have v:=aa j;clear j;go_wp2_with fail;go_round
   ·exact ⟨k+1,by omega,by go_num,by rw [v.o],rfl⟩
   ·simp [intOf];omega
  ·obtain rfl:k=q:=am;have g:wrap64 (sLo N k)=wrap64 (N/2^k):=by unfold sLo;exact iP _
   have n:=aa g;clear g;go_wp2_with fail;go_ret;exact ⟨by rw [<-n.o];rfl,rfl⟩
theorem iU (a b q:Int) (w:N6) (i: -9223372036854775808<=a/\a<=9223372036854775807) (j: -9223372036854775808<=b/\b<=9223372036854775807):Calls prog 106 #[yY a,yY b,yY q] w fun e w'=>e=.returned (yY (cP a b q))/\w=w':=by
 by_cases m:q<0
 ·have g:cP a b q=0:=by unfold cP;rw [if_pos (.inl m)]
  rw [g];clear g;go_enter func106,ntmps106;go_wp2_with fail;go_ret;exact ⟨rfl,rfl⟩
 ·by_cases l:62<q
  ·have g:cP a b q=0:=by unfold cP;rw [if_pos (.inr l)]
   rw [g];clear g;go_enter func106,ntmps106;go_wp2_with fail;go_ret;exact ⟨rfl,rfl⟩
  ·obtain ⟨Q,rfl⟩:=Int.eq_ofNat_of_zero_le (show 0<=q by omega);have g:cP a b Q=wrap64 (a*b/2^Q):=by unfold cP;rw [if_neg am];simp
   rw [g];have hm:=tJ i j;have h:=qS a b w i j;have k:=fun w'=>oJ (a*b) Q w' am am;obtain ⟨n,p⟩:=ab h k;clear h k g hm;go_enter func106,ntmps106;go_wp2_with fail;refine n.o.mono ?_;rintro e u ⟨rfl,rfl⟩;go_wp2_with fail;refine (p.o _).mono ?_;rintro e v ⟨rfl,rfl⟩;go_wp2_with fail;go_ret;exact ⟨rfl,rfl⟩
def wL (sz ps:N3) (k:Nat):N3:=bH (szN sz (k+1)*szN sz k) fun i=>nth ps (aF sz k+i)
def bL (sz ps:N3) (k:Nat):N3:=bH (szN sz (k+1)) fun i=>nth ps (bI sz k+i)
theorem nT (sz ps:N3) (k:Nat):(wL sz ps k).length=szN sz (k+1)*szN sz k:=aG _ _
theorem uM (sz ps:N3) (k:Nat):(bL sz ps k).length=szN sz (k+1):=aG _ _
def mw (w:N6) (a:N5) (sz ps:N3) (k:Nat):Prop:=∃g o d B e,
 a=[yY (szN sz (k+1):Int),yY (szN sz k:Int),.slice (some (ao g o)) (szN sz (k+1)*szN sz k) d,.slice B (szN sz (k+1)) e]/\szN sz (k+1)*szN sz k<=d/\
 Rd w (some (ao g o)) (au .i64 (wL sz ps k))/\Rd w B (au .i64 (bL sz ps k))
def dF (l i:N7) (w:N6) (b:Nat) (sz ps:N3) (q:Int):Prop:=∃S g k e h a,
 w.heap[b]?=some (.cells #[(ap S),.slice g ps.length k,yY q,.slice e (sz.length-1) h] i (0,0))/\
 aR l w S sz/\Rd w g (au .i64 ps)/\Rd w e (List.flatten a)/\a.length=sz.length-1/\(∀r∈a,r.length=4)/\∀j,j<sz.length-1->mw w (aK a j) sz ps j
theorem mw.below {w w':N6} {a:N5} {sz ps:N3} {k:Nat} (h:mw w a sz ps k) (i:an w w'):mw w' a sz ps k:=by
 obtain ⟨g,o,d,B,e,m,j,n,l⟩:=h;exact ⟨g,o,d,B,e,m,j,n.below i,l.below i⟩
theorem dF.below {k g:N7} {w w':N6} {b:Nat} {sz ps:N3} {q:Int} (h:dF k g w b sz ps q) (e:an w w'):dF k g w' b sz ps q:=by
 obtain ⟨S,m,B,v,l,a,i,x,p,A,u,y,n⟩:=h;exact ⟨S,m,B,v,l,a,(e.block b (xZ i)).trans i,x.below e,p.below e,A.below e,u,y,fun j o=>(n j o).below e⟩
theorem dF.lt {i e:N7} {w:N6} {b:Nat} {sz ps:N3} {q:Int} (h:dF i e w b sz ps q):b<w.heap.size:=by
 obtain ⟨S,k,m,l,j,a,g,_⟩:=h;exact xZ g
theorem ik:cE prog 60 2 (yY 0) 1 8:=⟨underlying60,info_parts (by kernel_rfl),rfl,by decide⟩
theorem ot (A:N0) (zs:N3) (c:Nat) (w:N6) (hA:Rd w A (au .i64 zs)) (hl:zs.length<=17592186043904):Calls prog 95 #[.slice A zs.length c] w fun e w'=>∃v,e=.returned v/\w'.ownsRow w.heap.size 2 1 v zs.length (au .i64 zs)/\an w w':=by
 have q:=fun (w:N6)=>Lib.run_eql_slice_nil (P:=prog) w 60 2 A zs.length c 0 0 underlying60
 cases A with
 | none=>
  have n:zs=[]:=by
   cases zs with
   | nil=>rfl
   | cons z l=>obtain ⟨b,o,h,_⟩:=hA 0 _ rfl;cases h
  subst n;clear q;have q:=fun (w:N6)=>Lib.run_eql_slice_nil (P:=prog) w 60 2 none 0 c 0 0 underlying60;simp only [Option.isNone_none] at q;rw [List.length_nil];go_enter func95,ntmps95;go_wp2;go_ret;exact ⟨_,rfl,yi _ _ _ _,ya _ _⟩
 | some a=>
  go_enter func95,ntmps95;go_wp2_with (at_builtin;refine ew ik _ rfl (.tmp 5) (.tmp 6) rfl w.heap.size _ 0 [] rfl (gE w 2 1) _ zs.length c (au .i64 zs) rfl (hA.alloc _) (by rw [aS];omega) (aV _ _) am (by unfold maxLen;omega) (by simp) ?_);intro x u p g m _ _;have j:=((ya _ w).alloc (x4 _) (.cells #[] 2)).trans m;obtain ⟨i,k⟩:=ab g j;clear g m j;go_wp2;go_ret;exact ⟨_,rfl,i.o,k.o⟩
theorem cS (A:N0) (zs:N3) (c:Nat) (w:N6) (hA:Rd w A (au .i64 zs)) (hl:zs.length<=17592186043904):Calls prog 52 #[.slice A zs.length c] w fun e w'=>∃j i,e=.returned (.slice j zs.length i)/\zs.length<=i/\w'.ownsRow w.heap.size 2 1 (.slice j zs.length i) zs.length (au .i64 zs)/\an w w':=by
 have h:=ot A zs c w hA hl;go_enter func52,ntmps52;go_wp2_with fail;refine h.mono ?_;rintro e n ⟨v,rfl,a,k⟩;obtain ⟨j,i,rfl,hc⟩:=aB a;clear h;obtain ⟨g,m,l⟩:=ae a k hc;clear a k hc;go_wp2;go_ret;exact ⟨_,_,rfl,l.o,g.o,m.o⟩
theorem qn (A B:N0) (xs ys:N3) (c d:Nat) (q:Int) (w:N6) (hA:Rd w A (au .i64 xs)) (G:Rd w B (au .i64 ys)) (hl:xs.length=ys.length) (hm:xs.length<=17592186043904) (E:W64 xs) (D:W64 ys):Calls prog 59 #[.slice A xs.length c,.slice B ys.length d,yY q] w fun e w'=>e=.returned (.tuple #[yY (ke xs ys q),.bool true])/\an w w':=by
 obtain ⟨n,m⟩:∃n,ys.length=n:=⟨_,rfl⟩;have g:xs.length=n:=hl.trans m;have y:ke xs ys q=ku xs ys q n:=by unfold ke;rw [g]
 rw [g,m,y];have J:n<=17592186043904:=am;obtain ⟨F,C,HA,I,L,H⟩:=ah m g hA G E D;clear m g hA G E D hl hm y;go_enter func59,ntmps59;go_wp2_with fail
 go_loopw [8,18] (fun s i wr=>∃k:Nat,k<=n/\i=yY k/\s=yY (ku xs ys q k)/\an w wr) (fun _ i _=>n-(intOf i).toNat)
 ·exact ⟨0,yb _,rfl,rfl,ya _ _⟩
 case round=>
  obtain ⟨k,P,rfl,rfl,h⟩:=hrel;by_cases a:k<n
  ·obtain ⟨M,R,v,S⟩:=(HA.o.below h).num (show k<xs.length by rw [C.o];exact a);obtain ⟨T,Q,u,N⟩:=(I.o.below h).num (show k<ys.length by rw [F.o];exact a);subst v;subst u;have j:=fun w'=>j8 (nth xs k) (nth ys k) q w' (L.o k (by rw [C.o];exact a)) (H.o k (by rw [F.o];exact a));obtain ⟨K,p⟩:=ab j h;clear j h;go_wp2_with fail;refine (K.o _).mono ?_;rintro e O ⟨rfl,l⟩;have x:=aa (p.o.trans (l.mono p.o.size));clear l;go_wp2_with fail;go_roundw
   ·exact ⟨k+1,by omega,by go_num,rfl,x.o⟩
   ·simp [intOf];omega
  ·obtain rfl:k=n:=am;have p:=aa h;clear h;go_wp2_with fail;go_ret2;exact ⟨rfl,p.o⟩
theorem bq {w:N6} {base n g c:Nat} {xs:N3} {e:N7} (h:w.ownsRow base e 1 (.slice (some (ao g 0)) n c) n (au .i64 xs)) {k:Nat} (a:k<n):w.cell? (ao g k)=some (yY (nth xs k)):=by
 rw [h.cellAt k am];have:=h.1;rw [aS] at this;exact jX .i64 xs k am
theorem fF {w:N6} {base n:Nat} {v:Value} {xs:N3} {e:N7} (h:w.ownsRow base e 1 v n (au .i64 xs)):xs.length=n:=by
 have:=h.1;rw [aS] at this;omega
theorem cU {w:N6} {base n g c:Nat} {xs:N3} {e:N7} (h:w.ownsRow base e 1 (.slice (some (ao g 0)) n c) n (au .i64 xs)) (k:Nat) (v:Int): (w.setCell (ao g k) (yY v)).ownsRow base e 1 (.slice (some (ao g 0)) n c) n (au .i64 (xs.set k v)):=by
 have:=(h.stored k (yY v)).1
 rwa [tE] at this
theorem qN (A:N0) (xs:N3) (c:Nat) (a q:Int) (w:N6) (hA:Rd w A (au .i64 xs)) (hm:xs.length<=17592186043904) (Q:W64 xs) (Z: -9223372036854775808<=a/\a<=9223372036854775807):Calls prog 258 #[.slice A xs.length c,yY a,yY q] w fun e w'=>∃H F,e=.returned (.slice H xs.length F)/\w'.ownsRow w.heap.size 2 1 (.slice H xs.length F) xs.length (au .i64 (iS xs a q))/\an w w':=by
 have B:=cS A xs c w hA hm;have v:=eu xs (fun k=>cP (nth xs k) a q);obtain ⟨n,I⟩:∃n,xs.length=n:=⟨_,rfl⟩;rw [I] at B hm;unfold iS;rw [<-v,I];obtain ⟨U,WX,X⟩:=ae B Q I;clear B Q hA v I;go_enter func258,ntmps258;go_wp2_with fail;refine U.o.mono ?_;rintro e w1 ⟨H,F,rfl,_,h,P⟩;obtain ⟨W,T⟩:=ab h P;clear h P;go_wp2_with fail
 go_loopw [14] (fun i wr=>∃k:Nat,k<=n/\i=yY k/\wr.ownsRow w.heap.size 2 1 (.slice H n F) n (au .i64 (eU xs k (fun k=>cP (nth xs k) a q)))/\an w wr) (fun i _=>n-(intOf i).toNat)
 ·exact ⟨0,yb _,rfl,by rw [dL];exact W.o,T.o⟩
 case round=>
  obtain ⟨k,hk,rfl,h,G⟩:=hrel;by_cases x:k<n
  ·obtain ⟨g,d,R,hg,a0⟩:=h.form am;simp only [yM] at R;obtain ⟨rfl,N,rfl⟩:=R;clear N;have m:k<xs.length:=by rw [X.o];exact x
   have V:=bq h x;rw [dt _ m,if_neg am] at V;have E:=fun w'=>j8 (nth xs k) a q w' (WX.o k m) Z;have D:=et (l:=xs) (k:=k) (fun k=>cP (nth xs k) a q) m;obtain ⟨Y,J,y,K⟩:=af E G h D;clear E G h D m;go_wp2_with fail;refine (Y.o _).mono ?_;rintro e S ⟨rfl,C⟩;have j:=az y.o C;have O:∃u,S.cell? (ao g k)=some u:=⟨_,bq j x⟩;obtain ⟨u3,O⟩:=O;have f3:=j.frozenAt k;obtain ⟨M,L⟩:=ab (cU j k (cP (nth xs k) a q)) ((J.o.trans (C.mono J.o.size)).setCell (p:=(ao g k)) hg (yY (cP (nth xs k) a q)));clear C j;go_wp2_with fail;go_roundw
   ·exact ⟨k+1,by omega,by go_num,by rw [<-K.o];exact M.o,L.o⟩
   ·simp [intOf];omega
  ·obtain rfl:k=n:=am;obtain ⟨J,y⟩:=ab G h;clear G h;go_wp2_with fail;go_ret;exact ⟨_,_,rfl,y.o,J.o⟩
theorem mr (base:Nat) (A B:N0) (xs ys:N3) (n c d:Nat) (w:N6) (h:w.ownsRow base 2 1 (.slice A n c) n (au .i64 xs)) (J:Rd w B (au .i64 ys)) (hl:ys.length=n) (hm:n<=17592186043904) (v:∀a b,A=some a->B=some b->a.block≠b.block):Calls prog 134 #[.slice A n c,.slice B n d] w fun e w'=>e=.returned (.bool true)/\w'.ownsRow base 2 1 (.slice A n c) n (au .i64 (eK xs ys))/\Keep (fun i=>(Value.slice A n c).ownBlock=some i) w w':=by
 have m:=fF h;have j:=eu xs (fun k=>wrap64 (nth xs k+nth ys k));unfold eK;rw [<-j,m];obtain ⟨O,K,Q,L,P⟩:=ag h J m hl v;clear h J m hl j v;go_enter func134,ntmps134;go_wp2_with fail
 go_loopw [13] (fun i wr=>∃k:Nat,k<=n/\i=yY k/\wr.ownsRow base 2 1 (.slice A n c) n (au .i64 (eU xs k (fun k=>wrap64 (nth xs k+nth ys k))))/\Keep (fun i=>(Value.slice A n c).ownBlock=some i) w wr) (fun i _=>n-(intOf i).toNat)
 ·exact ⟨0,yb _,rfl,by rw [dL];exact O.o,Keep.refl _ _⟩
 case round=>
  obtain ⟨k,T,rfl,h,y⟩:=hrel;by_cases p:k<n
  ·obtain ⟨g,e,I,hg,R⟩:=h.form am;simp only [yM] at I;obtain ⟨rfl,D,rfl⟩:=I;clear D;have u:k<xs.length:=by rw [Q.o];exact p
   have N:=bq h p;rw [dt _ u,if_neg am] at N;have U:=h.frozenAt k;obtain ⟨G,M,rfl,H⟩:=K.o.num (show k<ys.length by rw [L.o];exact p);have F:g≠G:=P.o _ _ rfl rfl;have S:wr.cell? (ao G (M+k))=some (yY (nth ys k)):=y.cell H (by simp [Value.ownBlock];exact F);have x:=et (l:=xs) (k:=k) (fun k=>wrap64 (nth xs k+nth ys k)) u;obtain ⟨E,q,C⟩:=ae y h x;clear y h x u H;go_wp2_with fail
   go_region
   all_goals go_wp2_with fail
   all_goals
    go_roundw
    case rel=>
     refine ⟨k+1,by omega,by go_num,?_,?_⟩
     ·rw [<-C.o];exact cU (aZ q.o 1) k _
     ·exact Keep.setCell (E.o.drewN 1) (ao g k) (.inr rfl) _
    case measure=>simp [intOf];omega
  ·obtain rfl:k=n:=am;obtain ⟨E,q⟩:=ab y h;clear y h;go_wp2_with fail;go_ret;exact ⟨rfl,q.o,E.o⟩
theorem kI (r c:Int) (w:N6) (hr:1<=r/\r<=1048576) (hc:1<=c/\c<=1048576):Calls prog 131 #[yY r,yY c] w fun e w'=>e=.returned (.bool true)/\w=w':=by
 obtain ⟨h,a⟩:=hr;obtain ⟨i,g⟩:=hc;go_enter func131,ntmps131;go_wp2;go_ret;exact ⟨aL (by simp [*]),rfl⟩
theorem gu (r c:Nat) (A:N0) (n d:Nat) (w:N6) (hr:1<=r/\r<=1048576) (hc:1<=c/\c<=1048576) (h:n=r*c) (hm:n<=17592186043904):Calls prog 96 #[.agg #[yY r,yY c,.slice A n d]] w fun e w'=>e=.returned (.bool true)/\w'=w.alloc (.cells #[yY r,yY c,.slice A n d] 119):=by
 have g:=fun w'=>kI r c w' am am;have a:(r:Int)*(c:Int)=(n:Int):=by rw [h];simp
 have i:0<=(r:Int)*(c:Int)/\(r:Int)*(c:Int)<=17592186043904:=am;have m:((n:Int)==IntKind.i64.wrap ((r:Int)*(c:Int)))=true:=by rw [yc _ am,a];simp
 have k:((n:Int)==(r:Int)*(c:Int))=true:=by rw [a];simp
 have j:=aa g;clear g a h;go_enter func96,ntmps96;go_wp2_with fail;refine (j.o _).mono ?_;rintro e l ⟨rfl,rfl⟩;go_wp2_with fail
 all_goals
  go_ret;exact ⟨aL (by first | rfl | simp [*]),rfl⟩
theorem wO (r c:Nat) (A:N0) (zs:N3) (d:Nat) (w:N6) (hr:1<=r/\r<=1048576) (hc:1<=c/\c<=1048576) (y:zs.length=r*c) (hm:zs.length<=17592186043904) (hA:Rd w A (au .i64 zs)):Calls prog 57 #[yY r,yY c,.slice A zs.length d] w fun e w'=>∃j h,e=.returned (.tuple #[.agg #[yY r,yY c,.slice j zs.length h],.bool true])/\zs.length<=h/\w'.ownsRow w.heap.size 2 1 (.slice j zs.length h) zs.length (au .i64 zs)/\an w w':=by
 have l:=fun w' (k:an w w')=>cS A zs d w' (hA.below k) hm;obtain ⟨n,q⟩:∃n,zs.length=n:=⟨_,rfl⟩;rw [q] at l y hm ⊢;have p:=fun j h w'=>gu r c j n h w' hr hc y hm;obtain ⟨F,H⟩:=ab l p;clear l p q hA y;go_enter func57,ntmps57;go_wp2_with fail;refine (F.o _ ?_).mono ?_
 ·exact ak
 rintro e C ⟨j,h,rfl,B,a,u⟩;have g:=(u.block w.heap.size (by simp)).trans (x6 w _);obtain ⟨⟨G,D,J⟩,M⟩:=bx3 g;have x:w.heap.size<C.heap.size:=xZ g;obtain ⟨N,K,I,m⟩:=af (aA a (base':=w.heap.size) (by simp)) B (Below.trans ((ya _ w).alloc (x4 _) _) (u.mono (by simp))) a;clear a B u g;go_wp2_with fail;refine (H.o _ _ _).mono ?_;rintro e O ⟨rfl,rfl⟩;go_wp2_with fail;refine yk (v:=.tuple #[.agg #[yY r,yY c,.slice j n h],.bool true]) (by simp [results,results57,go_sem,G,D,J,x]) rfl ⟨j,h,rfl,K.o,?_,?_⟩
 ·refine aA (Keep.own (S:=fun i=>i=w.heap.size) (w:=C) ?_ m.o (fun k E e=>by have:=(m.o.lt k E).1;simp at this;omega)) (by simp)
  (focus (repeat' (first | (with_reducible exact Keep.refl _ _) | (with_reducible assumption) | (with_reducible refine Keep.setCell ?_ _ ?_ _) | (with_reducible refine Keep.alloc ?_ _) | (with_reducible refine Keep.drewN ?_ _) | (with_reducible refine Keep.drew ?_) | (with_reducible exact Or.inr (linkS_b _ _)) | (with_reducible exact Or.inr (linkS_g _ _)) | (refine Or.inr ?_;first | rfl | (simp;done) | omega) | (refine Or.inl ?_;first | omega | (simp;done) | (simp;omega)))))
 ·have L:=I.o;exact ak
theorem vg (r c k:Nat) (g o n d:Nat) (w:N6) (hr:r<=1048576) (hc:1<=c/\c<=1048576) (v:k<r) (i:n=r*c) (u:n<=d):Calls prog 220 #[.agg #[yY r,yY c,.slice (some (ao g o)) n d],yY k] w fun e w'=>e=.returned (.slice (some (ao g (o+k*c))) c c)/\an w w':=by
 have l:k*c+c<=n:=by rw [i];have:=yX c (show k+1<=r by omega);rw [yP] at this;exact this
 have j:k*c<=1048576*1048576:=Nat.mul_le_mul am am;have h:(k:Int)*(c:Int)=((k*c:Nat):Int):=(Int.natCast_mul k c).symm;have q:((k:Int)+1)*(c:Int)=((k*c+c:Nat):Int):=by rw [Int.add_mul,h];simp
 obtain ⟨p,a⟩:∃p,k*c=p:=⟨_,rfl⟩;rw [a] at l j h q ⊢;clear a i;go_enter func220,ntmps220;go_wp2_with fail
 go_quiet (fail)
 have m:¬(p+c=p):=am;go_wp2;rw [show p+c-p=c by omega];go_ret;refine ⟨rfl,?_⟩;exact ak
theorem jO (a:N4) (w:N6):Calls prog 182 #[.agg a] w fun e w'=>e=.returned (.func (.func 219) #[] #[(ap w.heap.size)])/\w'=w.alloc (.cells a 119):=by
 go_enter func182,ntmps182;go_wp2;go_ret;exact ⟨rfl,rfl⟩
end Go.Proofs.YthamijnggdjaoaaGreat
namespace Go.Proofs.YthamijnggdjaoaaGreat
open Go.RowKit Go.Shelf
open Tryz
theorem j6 {w w':N6} (h:an w w'):w.grownBy w' none:=⟨h.os,h.tape,h.output,h.size,fun k a _=>h.block k a⟩
theorem dP {β:Type} (B b:Nat) (o:Obj) (g:o.isCells=true):OwnFrom B (fun (_:β) W=>W.heap[b]?=some o):=fun _ W i row a hg hr=> (hg.block b (xZ a) fun e=>by
  obtain ⟨j,h,hc⟩:=(hr b e.symm).2;rw [a] at h
  cases h
  rw [g] at hc
  cases hc).trans a
theorem kq {F:Fence} {m:Nat} {P:Program} {t e:N7} {z:Value} {size k:Nat} (T:cE P t e z size k) (W:N6) {ops:N9} {rest:List Oper} {o:Oper} {a:Na} {Q:Exit->Na->N6->Prop} (E:o.guard=none) (s x:Operand) (R:o.op=.call {callee:=.builtin .append,args:=#[s,x],argTypes:=#[t,t]}) (n₀ B:Nat) (v:Value) (n:Nat) (xs:N5) (hs:a.eval s=v) (hbx:Boxed W B t v) (hte:t≠e) (hown:W.ownsRow n₀ e size v n xs) (us:N5) (hx:a.eval x=.slice (some (ao W.heap.size 0)) 1 1) (hus:us.length=size) (I:∀u∈us,u.oneCell'=true) (hb:(n+1)*k<=140737488355328) (h63:n+1<=maxLen) (hbase:n₀<=W.heap.size) (hB:n₀<=B) (h:∀g c l,Boxed l B t v->Boxed (l.setCell (ao B 0) (.slice (some (ao g 0)) (n+1) c)) B t (.slice (some (ao g 0)) (n+1) c)-> (l.setCell (ao B 0) (.slice (some (ao g 0)) (n+1) c)).ownsRow n₀ e size (.slice (some (ao g 0)) (n+1) c) (n+1) (xs++us)->
   KeepsOthers W (l.setCell (ao B 0) (.slice (some (ao g 0)) (n+1) c))->Below n₀ W (l.setCell (ao B 0) (.slice (some (ao g 0)) (n+1) c))->
   (∀b A q C,b≠B->q≠e->W.heap[b]?=some (.cells A q C)->(l.setCell (ao B 0) (.slice (some (ao g 0)) (n+1) c)).heap[b]?=some (.cells A q C))->
   wpListIn F m P ops Q rest (a.put o.dst (.slice (some (ao g 0)) (n+1) c)) l):wpListIn F m P ops Q (o::rest) a (W.alloc (.cells us.toArray e)):=by
 obtain ⟨i,U,G,J,K⟩:=T.info
 refine wpListIn_append_own (W.alloc (.cells us.toArray e)) E s x t R n₀ e i z size k T.und U G J K T.zs T.pos v n xs hs (hown.alloc _) (ao W.heap.size 0) 1 1 us hx (by simpa using hus) ?_ I h63 hb
  (by simp;omega) ?_
 ·intro j u S;rw [Addr.add_lit,yR,x7 _ W.heap.size j us.toArray e (0,0) (x6 W _)];simpa using S
 ·intro Y l p hg _;obtain ⟨g,c,rfl⟩:=ownsRow_succ p;obtain ⟨M,V,N,X,O⟩:=hbx.appended hte hown hbase hB p hg;refine h g c l M V N X O fun b A q C L y D=>?_;have H:(W.alloc (.cells us.toArray e)).heap[b]?=some (.cells A q C):=(yj W _ b (xZ D)).trans D;have I:l.heap[b]?=some (.cells A q C):=(hg.block b (xZ H) (ar H y (hown.alloc _))).trans H;exact (Below.heap_setCell l _ _ b (fun e=>L e)).trans I
theorem nh {W j:N6} {B base:Nat} {e:N7} {size n:Nat} {v:Value} {xs:N5} {row:Option Nat} (h:W.ownsRow base e size v n xs) (hg:W.grownBy j row) (hr:∀r,row=some r->B<=r/\∃o:Obj,W.heap[r]?=some o/\o.isCells=false):j.ownsRow base e size v n xs:=by
 refine h.kept hg ?_;rcases h.2 with ⟨rfl,_⟩ | ⟨g,cap,k,rfl,_,a,_⟩
 ·exact .inl rfl
 ·refine .inr fun l=>?_;obtain ⟨o,i,hc⟩:=(hr g (by simpa [Value.ownBlock] using l.symm)).2;rw [a] at i;cases i;cases hc
theorem cq {W g:N6} {B b:Nat} {o:Obj} (i:o.isCells=true) {row:Option Nat} (h:W.heap[b]?=some o) (hg:W.grownBy g row) (hr:∀r,row=some r->B<=r/\∃o:Obj,W.heap[r]?=some o/\o.isCells=false):g.heap[b]?=some o:= (hg.block b (xZ h) fun e=>by
  obtain ⟨j,a,hc⟩:=(hr b e.symm).2;rw [h] at a
  cases a
  rw [i] at hc
  cases hc).trans h
theorem fT {S:Nat->Prop} {W g:N6} (h:Keep S W g) (i:∀k o,S k->W.heap[k]?=some o->o.isCells=true):KeepsOthers W g:=
 ⟨h.size,fun k o a e=>(h.block k (xZ a) fun j=>by rw [i k o j a] at e;cases e).trans a⟩
theorem my {F:Fence} {m:Nat} {P:Program} {t e:N7} {z:Value} {g:Nat} (T:cE P t e z 1 g) (w:N6) {ops:N9} {rest:List Oper} {o:Oper} {a:Na} {Q:Exit->Na->N6->Prop} (hg:o.guard=none) (l c:Operand) (h:o.op=Op.makeSlice t l c) (y:z.cells=#[z]) (n:Nat) (hl:a.eval l=yY (n:Int)) (hc:a.eval c=yY (n:Int)) (E:g*n<=281474976710656) (G:n<=maxLen) (D:∀w',w'.ownsRow w.heap.size e 1 (.slice (some (ao w.heap.size 0)) n n) n (List.replicate n z)->Below (w.heap.size) w w'->
   wpListIn F m P ops Q rest (a.put o.dst (.slice (some (ao w.heap.size 0)) n n)) w'):wpListIn F m P ops Q (o::rest) a w:=by
 obtain ⟨i,H,v,x,q⟩:=T.info;refine wpListIn_plain hg fun K A=>?_;obtain ⟨w',p,B,j⟩:=run_make_full (P:=P) w w.heap.size t e i z 1 T.und H v x .i64 .i64 n (by rw [q];exact E) G (x4 _);rw [y,Nat.mul_one,toList_madeCells_one] at B;unfold Oper.wpIn;refine ⟨by simp [Oper.about,h],?_⟩;rw [Oper.semAt_plain F _ _ (by rw [h];intro c u;cases u)];simp [execOp,h,hl,hc,p,Result.andThen];exact A _ _ (D w' B ⟨j.os,j.tape,j.output,j.size,fun k C=>j.block k C (by simp)⟩)
attribute [local go_sem] Oper.semAt_some
def iT (g o c:Nat) {r:Nat} (k:Fin r):N4:=#[yY (k.1:Int),.slice (some (ao g (o+k.1*c))) c c]
def dV (n₀ a:Nat) (W e:N6):Prop:=Below n₀ W e/\(a<W.heap.size->e.heap[a]?=W.heap[a]?)
theorem qj {r k:Nat} (h:k<r):(List.finRange r).take (k+1)=(List.finRange r).take k++[⟨k,h⟩]:=by
 rw [List.take_add_one];simp [h]
theorem tb (n l R n₀ g o r c K d:Nat) (hr:r<=1048576) (hc:1<=c/\c<=1048576) (P:K=r*c) (hd:K<=d) (J Jx:List (Fin r)->N6->Prop) (B:Nat) (hJ:AbidesFrom B J) (hY:∀a x W,J a W->a.length<r->YieldAt Fence.wide (n-1) prog l (iT g o c x) W fun e E=> (e=.returned (.bool true)/\J (a++[x]) E/\dV n₀ R W E)\/(e=.returned (.bool false)/\Jx (a++[x]) E)) (W:N6) (C:W.heap[R]?=some (.cells #[yY r,yY c,.slice (some (ao g o)) K d] 119 (0,0))) (h0:J [] W):
  CallsIn Fence.wide n prog 219 #[.func (.yield l) #[] #[],(ap R)] W fun e E=>(∃v,e=.returned v)/\
   ((∃ys,ys=List.finRange r/\J ys E)\/(∃a,True/\Jx a E)):=by
 obtain ⟨⟨Y,e1,e2⟩,Z⟩:=bx3 C;obtain ⟨V,S⟩:=ab C P;clear C P;refine callsIn_of_wp func219 rfl trivial ?_ rfl;simp only [ntmps219,List.size_toArray,List.length_cons,List.length_nil,Nat.reduceAdd,Nat.reduceSub,Array.replicate_succ,Array.replicate_zero,List.push_toArray,List.append_toArray,List.nil_append,List.cons_append]
 gi_wp2
 gi_loopw [6] (fun i wr=>∃k:Nat,k<=r/\i=yY k/\J ((List.finRange r).take k) wr/\wr.heap[R]?=some (.cells #[yY r,yY c,.slice (some (ao g o)) K d] 119 (0,0)))
  (fun i _=>r-(intOf i).toNat)
 ·exact ⟨0,yb _,rfl,h0,V.o⟩
 case round=>
  obtain ⟨k,hk,rfl,j,y⟩:=hrel;clear Y e1 e2 Z;by_cases u:k<r
  ·have L:((List.finRange r).take k).length<r:=by simp;omega
   obtain ⟨⟨Y,e1,e2⟩,Z⟩:=bx3 y;have F:=vg r c k g o K d wr hr hc u S.o hd;obtain ⟨A,O,T⟩:=ae j y F;clear j y F
   gi_wp2_with fail
   refine ⟨trivial,(fun h=>by cases h),?_⟩;refine (callsIn_wide.2 T.o).mono ?_;rintro e w3 ⟨rfl,D⟩;have N:=hJ _ _ _ none A.o (j6 D) (fun _ h=>by cases h);have p:=(D.block _ (xZ O.o)).trans O.o;obtain ⟨fn,a1,Q,a0,hy,hR⟩:=hY _ ⟨k,u⟩ w3 N L;unfold iT at hy;dsimp only at hy;have m:=aa p;clear N p D
   gi_wp2
   refine ⟨(fun h=>by cases h),?_⟩;refine hR.mono ?_;rintro e w5 (⟨rfl,G,I⟩ | ⟨rfl,H⟩)
   ·have M:=(I.2 (xZ m.o)).trans m.o;obtain ⟨U,X⟩:=ab M G;clear M G I
    gi_wp2
    go_roundw
    ·exact ⟨k+1,by omega,by go_num,by rw [qj u];exact X.o,U.o⟩
    ·simp [intOf];omega
   ·gi_wp2
    refine yk (results_none rfl _ _ _) rfl ?_;exact ⟨⟨_,rfl⟩,.inr ⟨_,trivial,H⟩⟩
  ·obtain rfl:k=r:=am;have q:(List.finRange k).take k=List.finRange k:=List.take_of_length_le (by simp);rw [q] at j;have A:=aa j;clear j q
   gi_wp2
   go_end0
   exact ⟨⟨_,rfl⟩,.inl ⟨_,rfl,A.o⟩⟩
theorem ic (n h n₀ g o r c e d:Nat) (hr:r<=1048576) (hc:1<=c/\c<=1048576) (i:e=r*c) (j:e<=d) (w:N6) (a:w.heap[h]?=some (.cells #[yY r,yY c,.slice (some (ao g o)) e d] 119 (0,0))):
  SeqStopsK Fence.wide n prog 219 #[(ap h)] (iT (r:=r) g o c) (dV n₀ h) (fun ys=>ys=List.finRange r) (fun _=>True) r w:=fun l J q W k m _ u p=>
 tb n l h n₀ g o r c e d hr hc i j J q _ m u W ((k.block _ (xZ a)).trans a) p
theorem fC {n₀ a:Nat} {A B C:N6} (h:dV n₀ a A B) (k:dV n₀ a B C):dV n₀ a A C:=
 ⟨h.1.trans k.1,fun e=>(k.2 (ye e h.1.size)).trans (h.2 e)⟩
theorem fD {n₀ a:Nat} {w:N6} (j:n₀<=w.heap.size) (k:a<w.heap.size) (W:N6) (l:Nat) (o e:Obj) (hl:w.heap.size<=l) (h:W.heap[l]?=some o) (i:o.isCells=false) (g:o.isWalk=false):dV n₀ a W (W.putObj l e):=
 ⟨belowK_b j W l o e hl h i g,fun _=>(belowK_b (n₀:=a+1) am W l o e hl h i g).block a am⟩
attribute [local go_sem] Oper.semAt_some
def fW (ms:N3) (c k:Nat):N3:=bH c fun j=>nth ms (k*c+j)
def rD (ms:N3) (r c:Nat) (xs:N3) (q:Int):N3:=bH r fun k=>ke (fW ms c k) xs q
theorem dU (ms:N3) (c k:Nat):(fW ms c k).length=c:=aG _ _
theorem iV {r c k:Nat} (a:k<r):k*c+c<=r*c:=by
 have:=yX c (show k+1<=r by omega)
 rwa [yP] at this
theorem fv (l:N3) (m j:Nat):nth (l.drop m) j=nth l (m+j):=by simp [nth,List.getD_eq_getElem?_getD,List.getElem?_drop]
theorem fu {l:N3} {m j:Nat} (h:j<m):nth (l.take m) j=nth l j:=by simp [nth,List.getD_eq_getElem?_getD,List.getElem?_take,h]
theorem vz {ms:N3} {r c k:Nat} (e:k<r) (hl:ms.length=r*c):(ms.drop (k*c)).take c=fW ms c k:=by
 have:=iV (c:=c) e;refine dB (by rw [yF,yI];omega) fun j a=>?_;rw [fu a,fv]
theorem qe {W:N6} {g o:Nat} {ms:N3} {r c k:Nat} (h:Rd W (some (ao g o)) (au .i64 ms)) (a:k<r) (hl:ms.length=r*c):Rd W (some (ao g (o+k*c))) (au .i64 (fW ms c k)):=by
 have:=(h.drop (k*c)).take c
 rwa [dK,dq,vz a hl] at this
theorem nw {ms:N3} {r c k:Nat} (h:W64 ms) (a:k<r) (hl:ms.length=r*c):W64 (fW ms c k):=cY fun j e=>h _ (by have:=iV (c:=c) a;omega)
theorem tQ (r c k:Nat) (g o:Nat) (ms:N3) (B:N0) (xs:N3) (e:Nat) (q:Int) (W:N6) (i:k<r) (hc:1<=c/\c<=1048576) (h:ms.length=r*c) (hA:Rd W (some (ao g o)) (au .i64 ms)) (m:W64 ms) (j:Rd W B (au .i64 xs)) (a:xs.length=c) (l:W64 xs):Calls prog 59 #[.slice (some (ao g (o+k*c))) c c,.slice B c e,yY q] W fun e w'=>e=.returned (.tuple #[yY (ke (fW ms c k) xs q),.bool true])/\an W w':=by
 have:=qn (some (ao g (o+k*c))) B (fW ms c k) xs c e q W (qe hA i h) j (by rw [dU,a]) (by rw [dU];omega) (nw m i h) l
 rwa [dU,a] at this
theorem tK (ms:N3) (r c:Nat) (xs:N3) (q:Int):((List.finRange r).map fun k=>ke (fW ms c k.1) xs q)=rD ms r c xs q:=by
 refine dB (by simp) fun k a=>?_;rw [cJ _ _ (by simpa using a)];simp
theorem tM (r c:Nat) (g o m d:Nat) (ms:N3) (B:N0) (xs:N3) (e:Nat) (q:Int) (w:N6) (hr:1<=r/\r<=1048576) (hc:1<=c/\c<=1048576) (S:m=r*c) (hd:m<=d) (hm:m<=17592186043904) (b0:ms.length=m) (hA:Rd w (some (ao g o)) (au .i64 ms)) (wm:W64 ms) (hB:Rd w B (au .i64 xs)) (a4:xs.length=c) (wx:W64 xs):Calls prog 133 #[.agg #[yY r,yY c,.slice (some (ao g o)) m d],.slice B c e,yY q] w fun e w'=>∃A' c',e=.returned (.tuple #[.slice A' r c',.bool true])/\w'.ownsRow w.heap.size 2 1 (.slice A' r c') r (au .i64 (rD ms r c xs q))/\an w w':=by
 have a3:=fun w'=>gu r c (some (ao g o)) m d w' hr hc S hm;have a8:=fun cs w'=>jO cs w';obtain ⟨b9,bb,T,b6,b7,HA,HB,WM⟩:=aj a3 a8 S b0 a4 hA hB wm;have WX:=aa wx;clear a3 a8 S b0 a4 hA hB wm wx;refine (callsIn_wide (n:=3)).1 ?_;refine callsIn_of_wp_marks func133 rfl trivial ?_ rfl;simp only [ntmps133,List.size_toArray,List.length_cons,List.length_nil,Nat.reduceAdd,Nat.reduceSub,Array.replicate_succ,Array.replicate_zero,List.push_toArray,List.append_toArray,List.nil_append,List.cons_append]
 gi_wp2_with fail
 refine ⟨trivial,?_⟩;refine (callsIn_wide.2 (b9.o _)).mono ?_;rintro e w1 ⟨rfl,rfl⟩
 gi_wp2_with fail
 refine ⟨trivial,?_⟩;refine (callsIn_wide.2 (bb.o _ _)).mono ?_;rintro e w2 ⟨rfl,rfl⟩
 gi_wp2_with fail
 obtain ⟨i,y⟩:∃i,i=((((w.alloc (.cells #[yY r,yY c,.slice (some (ao g o)) m d] 119)).alloc (.cells #[.slice B c e] 60)).alloc (.cells #[yY q] 3)).alloc (.cells #[yY r,yY c,.slice (some (ao g o)) m d] 119)):=⟨_,rfl⟩;have O:i.heap.size=w.heap.size+1+1+1+1:=by rw [y];simp
 have b4:Boxed i (w.heap.size+1) 60 (.slice B c e):=by
  rw [y];have:=((Boxed.new (w.alloc (.cells #[yY r,yY c,.slice (some (ao g o)) m d] 119)) 60 (.slice B c e)).alloc (.cells #[yY q] 3)).alloc (.cells #[yY r,yY c,.slice (some (ao g o)) m d] 119);simpa using this
 have b5:Boxed i (w.heap.size+1+1) 3 (yY q):=by
  rw [y];have:=(Boxed.new ((w.alloc (.cells #[yY r,yY c,.slice (some (ao g o)) m d] 119)).alloc (.cells #[.slice B c e] 60)) 3 (yY q)).alloc (.cells #[yY r,yY c,.slice (some (ao g o)) m d] 119);simpa using this
 have C:an w i:=by rw [y];exact ((((ya _ w).alloc (x4 _) _).alloc (by simp) _).alloc (by simp;omega) _).alloc (by simp;omega) _
 rw [<-y,<-O];have bO:=(Boxed.new i 60 (yZ)).alloc (.cells #[yY r,yY c,.slice (some (ao g o)) m d] 119)
 have bM:((i.alloc (.cells #[yZ] 60)).alloc (.cells #[yY r,yY c,.slice (some (ao g o)) m d] 119)).heap[i.heap.size+1]?=some (.cells #[yY r,yY c,.slice (some (ao g o)) m d] 119 (0,0)):=by
  have:=x6 (i.alloc (.cells #[yZ] 60)) (.cells #[yY r,yY c,.slice (some (ao g o)) m d] 119);simpa using this
 obtain ⟨Y,j,ad⟩:=ae O C bM;clear y;clear O C bM
 refine' wpIn_rangeFunc_ownG (F:=Fence.wide) (n:=3) rfl am (gf:=219) (lb:=#[(ap (i.heap.size+1))]) rfl trivial (enters_of func219 (by kernel_rfl) rfl)
  (ic _ (i.heap.size+1) w.heap.size g o r c m d hr.2 hc T.o hd _ ad.o) fC (fD (by have:=j.o.size;simp;omega) (by simp)) (ya _ _) (fun _=>rfl)
  (fun (a:List (Fin r)) W=>((∃v,Boxed W i.heap.size 60 v/\W.ownsRow w.heap.size 2 1 v a.length (au .i64 (a.map fun k=>ke (fW ms c k.1) xs q))/\True)/\Boxed W (w.heap.size+1) 60 (.slice B c e)/\Boxed W (w.heap.size+1+1) 3 (yY q)/\W.heap[i.heap.size+1]?=some (.cells #[yY r,yY c,.slice (some (ao g o)) m d] 119 (0,0)))/\an w W)
  (fun _ _ _=>False)
  (OwnFrom.and (OwnFrom.and (Own.from (holdsRow_own w.heap.size i.heap.size 60 2 1 (fun a:List (Fin r)=>a.length) (fun a=>au .i64 (a.map fun k=>ke (fW ms c k.1) xs q)) (fun _ _=>True)) _) (OwnFrom.and (dP _ _ _ rfl) (OwnFrom.and (dP _ _ _ rfl) (dP _ _ _ rfl)))) (ownFrom_below (x4 _) (by have:=j.o.size;simp;omega)))
  (fun _ _ _ _ _ hs _ _=>hs)
  ⟨⟨⟨_,bO,yi _ _ _ _,trivial⟩,(b4.alloc _).alloc _,(b5.alloc _).alloc _,ad.o⟩,(j.o.alloc (by have:=j.o.size;omega) _).alloc (by have:=j.o.size;simp;omega) _⟩
  _ ?assign ?body ?done ?stop
 case assign=>
  intro l x W K hK;unfold iT
  gi_wp2
  exact hK
 case body=>
  rintro l a x W ⟨⟨⟨v,hv,u,_⟩,G,H,N⟩,I⟩ a5;have bc:=G.cell;have bh:=H.cell;obtain ⟨Hv,X,HM,E,H4,H5,bl⟩:=ai hv u N I G H a5;clear hv u N I G H a5
  gi_wp2_with fail
  refine ⟨trivial,?_⟩;refine (CallsIn.inRound l (callsIn_wide.2 (tQ r c x.1 g o ms B xs _ q W x.2 hc (b6.o.trans T.o) (HA.o.below E.o) WM.o (HB.o.below E.o) b7.o WX.o))).mono ?_;rintro e w3 ⟨rfl,p⟩;have Q:Boxed w3 i.heap.size 60 v:=(p.block _ (Boxed.lt Hv.o)).trans Hv.o;have bd:=Q.cell;have A:=az X.o p;have U:w.heap.size<=w3.heap.size:=yd E.o.size p.size;have a7:w.heap.size<=i.heap.size:=j.o.size;have a9:a.length<r:=bl.o;have L:=(p.block _ (xZ HM.o)).trans HM.o;have M:=(p.block _ (xZ H4.o)).trans H4.o;have J:=(p.block _ (xZ H5.o)).trans H5.o;obtain ⟨a0,a1,Z,bg,a6,P,bk,b8⟩:=aj L M J Q p A U a7;have a2:=aa a9;clear Q p A U a7 a9 L M J bc bh;obtain ⟨dv,R⟩:∃dv,dv=ke (fW ms c x.1) xs q:=⟨_,rfl⟩;have be:=aa R;rw [<-R];clear R
  gi_wp2_with (gi_at_builtin;refine kq ik w3 rfl (.tmp 34) (.tmp 36) rfl w.heap.size i.heap.size v a.length _ rfl bg.o (by decide) P.o [yY dv] rfl rfl (aV .i64 [dv]) (by have:=a2.o;have:=hr.2;omega) (by have:=a2.o;have:=hr.2;unfold maxLen;omega) bk.o b8.o ?_)
  intro g1 c1 w1 k1 k2 k3 k4 k5 k6;have bo:=k1.cell;have bm:=k1.frozen;obtain ⟨K2,K3,K4,K5,K6⟩:=ag k2 k3 k4 k5 k6;clear k1 k2 k3 k4 k5 k6 bd
  gi_wp2_with fail
  have b1:Below w.heap.size W (w1.setCell (ao i.heap.size 0) (.slice (some (ao g1 0)) (a.length+1) c1)):=(a6.o.mono E.o.size).trans K5.o;have b3:i.heap.size+1≠i.heap.size:=am;have b2:w.heap.size+1≠i.heap.size:=by have:=Y.o;omega
  have av:w.heap.size+1+1≠i.heap.size:=by have:=Y.o;omega
  have V:=K6.o _ _ _ _ _ b3 (by decide) a0.o;refine ⟨((KeepsOthers.of_grownBy (row:=none) (j6 a6.o) (fun _ _ h=>by cases h)).trans K4.o).from _,⟨b1,fun _=>V.trans HM.o.symm⟩,⟨⟨_,K2.o,?_,trivial⟩,K6.o _ _ _ _ _ b2 (by decide) a1.o,K6.o _ _ _ _ _ av (by decide) Z.o,V⟩,E.o.trans b1⟩;have h:=K3.o;rw [be.o] at h;simpa [au] using h
 case done=>
  rintro D ys W hD rfl ⟨⟨⟨v,hv,u,_⟩,G,H,N⟩,I⟩ hK;have hc:=hv.cell
  gi_wp2
  refine ⟨by simp,.inl ⟨_,_,rfl,run_takeDeferred hK,?_⟩⟩;obtain ⟨A',c',rfl,_⟩:=aB u;rw [List.length_finRange,tK] at *;refine ⟨.tuple #[.slice A' r c',.bool true],by simp [results,results133,go_sem],A',c',rfl,ownsRow_putObj u _ hK rfl,I.trans (belowK_b (w:=w) (x4 _) W D _ _ (by have:=j.o.size;simp at hD;omega) hK rfl rfl)⟩
 case stop=>
  rintro D c a W _ _ h _;exact h.elim
end Go.Proofs.YthamijnggdjaoaaGreat
namespace Go.Proofs.YthamijnggdjaoaaGreat
open Go.RowKit
open Tryz
def kL (l:N3):N3:=bH l.length fun i=>max (nth l i) 0
def zL (sz ps:N3) (q:Int) (k:Nat) (v:N3):N3:=eK (rD (wL sz ps k) (szN sz (k+1)) (szN sz k) v q) (bL sz ps k)
def bi (sz ps:N3) (q:Int) (x:N3):Nat->N3
 | 0=>x
 | k+1=>if k+1<sz.length-1 then kL (zL sz ps q k (bi sz ps q x k)) else zL sz ps q k (bi sz ps q x k)
theorem W64.nth {l:N3} (h:W64 l) (k:Nat): -9223372036854775808<=nth l k/\nth l k<=9223372036854775807:=by
 by_cases a:k<l.length
 ·exact h k a
 ·have:Go.Proofs.YthamijnggdjaoaaGreat.nth l k=0:=by unfold Go.Proofs.YthamijnggdjaoaaGreat.nth;simp [List.getD,List.getElem?_eq_none (show l.length<=k by omega)]
  omega
theorem ss {ps:N3} (h:W64 ps) (sz:N3) (k:Nat):W64 (wL sz ps k):=cY fun _ _=>h.nth _
theorem nv (ms:N3) (r c:Nat) (xs:N3) (q:Int):(rD ms r c xs q).length=r:=aG _ _
theorem gc (xs ys:N3):(eK xs ys).length=xs.length:=aG _ _
theorem nQ (xs ys:N3):W64 (eK xs ys):=cY fun _ _=>dg _
theorem qZ (l:N3):(kL l).length=l.length:=aG _ _
theorem rg {l:N3} (h:W64 l):W64 (kL l):=cY fun k _=>by have:=h.nth k;omega
theorem lH (sz ps:N3) (q:Int) (k:Nat) (v:N3):(zL sz ps q k v).length=szN sz (k+1):=by unfold zL;rw [gc,nv]
theorem si (sz ps:N3) (q:Int) (k:Nat) (v:N3):W64 (zL sz ps q k v):=nQ _ _
theorem cw {sz ps:N3} {q:Int} {x:N3} (h:x.length=szN sz 0) (k:Nat):(bi sz ps q x k).length=szN sz k:=by
 cases k with
 | zero=>exact h
 | succ k=>
  unfold bi
  split
  ·rw [qZ,lH]
  ·rw [lH]
theorem ir {sz ps:N3} {q:Int} {x:N3} (h:W64 x) (k:Nat):W64 (bi sz ps q x k):=by
 cases k with
 | zero=>exact h
 | succ k=>
  unfold bi
  split
  ·exact rg (si _ _ _ _ _)
  ·exact si _ _ _ _ _
def dM (w:N6) (a:N5) (n:Nat) (f:Nat->N3):Prop:=a.length=n/\∀j,j<n->∃A c,a[j]?=some (.slice A (f j).length c)/\(f j).length<=c/\Rd w A (au .i64 (f j))
theorem dM.below {w w':N6} {a:N5} {n:Nat} {f:Nat->N3} (h:dM w a n f) (l:an w w'):dM w' a n f:=
 ⟨h.1,fun j e=>by obtain ⟨A,c,i,g,k⟩:=h.2 j e;exact ⟨A,c,i,g,k.below l⟩⟩
structure jq (w:N6) (As Ap:N0) (sz ps:N3) (cs:Nat):Prop where
 hA:Rd w As (au .i64 sz)
 hP:Rd w Ap (au .i64 ps)
 hg:bn sz
 hl:ps.length=aF sz (sz.length-1)
 hc:sz.length<=cs
 wp:W64 ps
theorem jq.below {w w':N6} {a i:N0} {sz ps:N3} {e:Nat} (h:jq w a i sz ps e) (g:an w w'):jq w' a i sz ps e:=⟨h.hA.below g,h.hP.below g,h.hg,h.hl,h.hc,h.wp⟩
theorem fm (g j:N0) (n m h i:Nat) (q:Int) (w:N6) (k:1<=n/\n<=1000):Calls prog 108 #[.agg #[.slice g n h,.slice j m i,yY q]] w fun e w'=>e=.returned (yY ((n-1:Nat):Int))/\an w w':=by
 obtain ⟨o,l⟩:=k;have hw:IntKind.i64.wrap ((n:Int)-1)=((n-1:Nat):Int):=by rw [yc _ am];omega
 have a:(n:Int)-1=((n-1:Nat):Int):=am;rw [a] at hw;go_enter func108,ntmps108;go_wp2;go_ret;refine ⟨by first | rfl | (rw [a];rfl),?_⟩;exact ak
theorem jj (O R:N0) (sz ps:N3) (x I k r c:Nat) (q:Int) (w:N6) (h:jq w O R sz ps x) (L:k+1<sz.length) (hr:r<szN sz (k+1)) (hc:c<szN sz k):Calls prog 143 #[.agg #[.slice O sz.length x,.slice R ps.length I,yY q],yY k,yY r,yY c] w fun e w'=>e=.returned (yY (nth ps (aF sz k+r*szN sz k+c)))/\an w w':=by
 have H:=h.hg.1;have D:=H.1.2;have Q:=H.at (k:=k) am;have E:=h.hg.mul L
 have g:aF sz k+r*szN sz k+c<ps.length:=by
  have h1:=cR sz k;have h2:=cW sz (show k+1<=sz.length-1 by omega)
  have h3:r*szN sz k+szN sz k<=szN sz (k+1)*szN sz k:=by
   have:=yX (szN sz k) (show r+1<=szN sz (k+1) by omega)
   rwa [yP] at this
  have h4:=h.hl;unfold bI at h1;omega
 have j:=fun w' (Y:an w w')=>ix O sz k x w' (h.hA.below Y) H L h.hc;have K:ps.length<=1048576:=by rw [h.hl];exact h.hg.2
 obtain ⟨b,o,rfl,G⟩:=h.hA.num (show k<sz.length by omega);obtain ⟨y,C,rfl,A⟩:=h.hP.num g;have u:r*szN sz k<=szN sz (k+1)*szN sz k:=yX _ am;rw [Q.2.2] at G;obtain ⟨a,U⟩:∃a,szN sz k=a:=⟨_,rfl⟩;obtain ⟨N,T⟩:∃N,aF sz k=N:=⟨_,rfl⟩;obtain ⟨n,S⟩:∃n,sz.length=n:=⟨_,rfl⟩;obtain ⟨m,hm⟩:∃m,ps.length=m:=⟨_,rfl⟩;rw [U] at G A g hc u Q ⊢;rw [T] at A g j ⊢;rw [S] at j L D ⊢;rw [hm] at g K ⊢;obtain ⟨ra,v⟩:∃ra,r*a=ra:=⟨_,rfl⟩;rw [v] at A g u ⊢;have J:b<w.heap.size:=aw G;have F:y<w.heap.size:=aw A;have B:(r:Int)*(a:Int)=(ra:Int):=by rw [<-v];push_cast;rfl
 have M:=aa j;clear j h H E u Q S hm T U v hr;have a3:IntKind.i64.wrap ((r:Int)*(a:Int))=(ra:Int):=by rw [B];exact yc _ am
 have Z:IntKind.i64.wrap ((N:Int)+(ra:Int))=(N:Int)+ra:=yc _ am;have X:IntKind.i64.wrap ((N:Int)+(ra:Int)+(c:Int))=(N:Int)+ra+c:=yc _ am;have V:(0:Int)<=(N:Int)+ra+c:=am;have a1:(N:Int)+ra+c<m:=am;have a4:((N:Int)+ra+c).toNat=N+ra+c:=am;have a2:(k:Int)<n:=am;have a0:k<n:=am;have a5:=pQ;clear B;go_enter func143,ntmps143;go_wp2_with fail
 go_region_held3 (fun w'=>w'.cell? ⟨w.heap.size,0,none⟩=some (.slice (some ⟨b,o,none⟩) n x)/\w'.cell? ⟨w.heap.size,1,none⟩=some (.slice (some ⟨y,C,none⟩) m I)/\w'.cell? ⟨b,o+k,none⟩=some (yY a)/\w'.cell? ⟨y,C+(N+ra+c),none⟩=some (yY (nth ps (N+ra+c)))) (simp [go_sem,World.cell?_alloc_past, *])
  ((go_at_call 185;refine (M.o _ ?_).mono ?_;(focus (exact ak;done));rintro e W ⟨rfl,l⟩;have i:an w W:=Below.trans (by exact ak) (l.mono (by simp));have g0:=aq l (x7 _ w.heap.size 0 _ _ _ (x6 w (.cells #[.slice (some ⟨b,o,none⟩) n x,.slice (some ⟨y,C,none⟩) m I,yY q] 150)));have g1:=aq l (x7 _ w.heap.size 1 _ _ _ (x6 w (.cells #[.slice (some ⟨b,o,none⟩) n x,.slice (some ⟨y,C,none⟩) m I,yY q] 150)));have g2:=(i.cell (p:=⟨b,o+k,none⟩) J).trans G;have g3:=(i.cell (p:=⟨y,C+(N+ra+c),none⟩) F).trans A;have P:=aa i;clear l i))
 go_wp2_with fail;go_ret;exact ⟨rfl,P.o⟩
theorem ri (D I:N0) (sz ps:N3) (l A k r:Nat) (q:Int) (w:N6) (h:jq w D I sz ps l) (J:k+1<sz.length) (hr:r<szN sz (k+1)):Calls prog 186 #[.agg #[.slice D sz.length l,.slice I ps.length A,yY q],yY k,yY r] w fun e w'=>e=.returned (yY (nth ps (bI sz k+r)))/\an w w':=by
 have F:=h.hg.1;have x:=F.1.2
 have j:bI sz k+r<ps.length:=by
  have Y:=cR sz k;have U:=cW sz (show k+1<=sz.length-1 by omega);have W:=h.hl;omega
 have a:=fun w' (O:an w w')=>nd D sz k l w' (h.hA.below O) F J h.hc;have C:ps.length<=1048576:=by rw [h.hl];exact h.hg.2
 obtain ⟨b,o,rfl,R⟩:=h.hA.num (show k<sz.length by omega);obtain ⟨u,v,rfl,B⟩:=h.hP.num j;obtain ⟨M,H⟩:∃M,bI sz k=M:=⟨_,rfl⟩;obtain ⟨n,K⟩:∃n,sz.length=n:=⟨_,rfl⟩;obtain ⟨m,hm⟩:∃m,ps.length=m:=⟨_,rfl⟩;rw [H] at B j a ⊢;rw [K] at a J x ⊢;rw [hm] at j C ⊢;have y:u<w.heap.size:=aw B;have G:=aa a;clear a h F K hm H hr R;have P:IntKind.i64.wrap ((M:Int)+(r:Int))=(M:Int)+r:=yc _ am;have L:(0:Int)<=(M:Int)+r:=am;have Q:(M:Int)+r<m:=am;have S:((M:Int)+r).toNat=M+r:=am;have T:=pQ;go_enter func186,ntmps186;go_wp2_with fail
 go_region_held3 (fun w'=>w'.cell? ⟨w.heap.size,0,none⟩=some (.slice (some ⟨b,o,none⟩) n l)/\w'.cell? ⟨w.heap.size,1,none⟩=some (.slice (some ⟨u,v,none⟩) m A)/\w'.cell? ⟨u,v+(M+r),none⟩=some (yY (nth ps (M+r)))) (simp [go_sem,World.cell?_alloc_past, *])
  ((go_at_call 221;refine (G.o _ ?_).mono ?_;(focus (exact ak;done));rintro e N ⟨rfl,g⟩;have i:an w N:=Below.trans (by exact ak) (g.mono (by simp));have X:=aq g (x7 _ w.heap.size 0 _ _ _ (x6 w (.cells #[.slice (some ⟨b,o,none⟩) n l,.slice (some ⟨u,v,none⟩) m A,yY q] 150)));have Z:=aq g (x7 _ w.heap.size 1 _ _ _ (x6 w (.cells #[.slice (some ⟨b,o,none⟩) n l,.slice (some ⟨u,v,none⟩) m A,yY q] 150)));have V:=(i.cell (p:=⟨u,v+(M+r),none⟩) y).trans B;have E:=aa i;clear g i))
 go_wp2_with fail;go_ret;exact ⟨rfl,E.o⟩
def jp (sz ps:N3) (q:Int) (k r:Nat) (v:N3):Nat->Int
 | 0=>nth ps (bI sz k+r)
 | c+1=>wrap64 (jp sz ps q k r v c+cP (nth ps (aF sz k+r*szN sz k+c)) (nth v c) q)
theorem s8 (C y:N0) (sz ps:N3) (B F k r:Nat) (q:Int) (V:N0) (v:N3) (cv:Nat) (w:N6) (h:jq w C y sz ps B) (U:k+1<sz.length) (hr:r<szN sz (k+1)) (hV:Rd w V (au .i64 v)) (hv:v.length=szN sz k) (wv:W64 v):Calls prog 145 #[.agg #[.slice C sz.length B,.slice y ps.length F,yY q],yY k,yY r,.slice V v.length cv] w fun e w'=>e=.returned (yY (jp sz ps q k r v v.length))/\an w w':=by
 have A:=fun w' (Q:an w w')=>ri C y sz ps B F k r q w' (h.below Q) U hr;have j:=fun c (hc:c<szN sz k) w' (Q:an w w')=>jj C y sz ps B F k r c q w' (h.below Q) U hr hc;have P:v.length<=1048576:=by rw [hv];exact (h.hg.1.at (k:=k) am).2.1
 obtain ⟨n,hn⟩:∃n,sz.length=n:=⟨_,rfl⟩;obtain ⟨m,hm⟩:∃m,ps.length=m:=⟨_,rfl⟩;obtain ⟨x,Z⟩:∃x,v.length=x:=⟨_,rfl⟩;rw [hn,hm] at A j ⊢;rw [Z] at P ⊢;obtain ⟨a1,S,HV,Hv,Hx,WV,WP⟩:=ai A j hV hv Z wv h.wp;clear A j hV hv Z wv h hn hm hr U;go_enter func145,ntmps145;go_wp2_with fail;refine (a1.o _ ?_).mono ?_
 ·exact ak
 rintro e w1 ⟨rfl,D⟩;have a:=(D.block w.heap.size (by simp)).trans (x6 w (.cells #[.slice C n B,.slice y m F,yY q] 150));have G:an w w1:=((ya _ w).alloc (x4 _) _).trans (D.mono (by simp));obtain ⟨u,Y⟩:=ab a G;clear D a G;go_wp2_with fail
 go_loopw [9,10] (fun s i wr=>∃c:Nat,c<=x/\i=yY c/\s=yY (jp sz ps q k r v c)/\wr.heap[w.heap.size]?=some (.cells #[.slice C n B,.slice y m F,yY q] 150 (0,0))/\an w wr) (fun _ i _=>x-(intOf i).toNat)
 ·exact ⟨0,yb _,rfl,rfl,u.o,Y.o⟩
 case round=>
  obtain ⟨c,hc,rfl,rfl,a,E⟩:=hrel;by_cases O:c<x
  ·obtain ⟨M,ov,rfl,T⟩:=HV.o.num (show c<v.length by rw [Hx.o];exact O);have R:M<w.heap.size:=aw T;have X:=(E.cell (p:=⟨M,ov+c,none⟩) R).trans T;obtain ⟨⟨x0,x1,x2⟩,xf⟩:=bx3 a;have H:=xZ a;have a2:M<wr.heap.size:=by have:=E.size;omega
   have j:=S.o c (by have:=Hv.o;have:=Hx.o;omega);have I:=fun w'=>iU (nth ps (aF sz k+r*szN sz k+c)) (nth v c) q w' (WP.o.nth _) (WV.o.nth _);obtain ⟨a0,N,J,u⟩:=af j I E a;clear j I E a T;have a3:(c:Int)<x:=am;go_wp2_with fail
   go_region_held3 (fun w'=>w'.cell? ⟨w.heap.size,0,none⟩=some (.slice C n B)/\w'.cell? ⟨w.heap.size,1,none⟩=some (.slice y m F)/\w'.cell? ⟨w.heap.size,2,none⟩=some (yY q)/\w'.cell? ⟨M,ov+c,none⟩=some (yY (nth v c))) (simp [go_sem, *])
    ((first | (go_at_call 143;refine (a0.o wr.drew J.o.drew).mono ?_;rintro e w3 ⟨rfl,g⟩;have g0:=aq g x0;have g1:=aq g x1;have g2:=aq g x2;have g3:=aq g X;have l:=(g.block w.heap.size H).trans u.o;have L:=J.o.trans (((ya wr.heap.size wr).drew.trans g).mono J.o.size);obtain ⟨K,W⟩:=ab l L;clear g l L) | (go_at_call 106;refine (N.o _).mono ?_;rintro e w4 ⟨rfl,rfl⟩)))
   go_wp2_with fail;go_roundw
   ·exact ⟨c+1,by omega,by go_num,by rw [IntKind.wrap_i64,jp,wrap64],K.o,W.o⟩
   ·simp [intOf];omega
  ·obtain rfl:c=x:=am;have J:=aa E;clear E a;go_wp2_with fail;go_ret;exact ⟨rfl,J.o⟩
def pF (sz ps:N3) (q:Int):Prop:=bn sz/\0<=q/\q<=62/\ps.length=aF sz (sz.length-1)
theorem vH:cE prog 124 60 (yZ) 1 24:=⟨underlying124,info_parts (by kernel_rfl),rfl,by decide⟩
theorem nX (P base:Nat) (A B:N0) (n c m d:Nat) (xs:N5) (w:N6) (hP:w.heap[P]?=some (.cells #[.slice A n c] 124 (0,0))) (E:w.ownsRow base 60 1 (.slice A n c) n xs) (T:n<=1000000) (j:base<=w.heap.size) (L:base<=P):Calls prog 132 #[.slice B m d,(ap P)] w fun e w'=>(∃v,e=.returned v)/\∃D l,w'.heap[P]?=some (.cells #[.slice D (n+1) l] 124 (0,0))/\w'.ownsRow base 60 1 (.slice D (n+1) l) (n+1) (xs++[.slice B m d])/\
   Keep (fun i=>i=P\/(Value.slice A n c).ownBlock=some i) w w':=by
 obtain ⟨U,Q⟩:=bx1 hP;have y:=xZ hP;obtain ⟨HP,F⟩:=ab hP E;clear hP E;go_enter func132,ntmps132;go_wp2_with (at_builtin;refine aE vH w rfl (.tmp 3) (.tmp 5) rfl base (.slice A n c) n xs rfl F.o [.slice B m d] rfl rfl (by simp [Value.oneCell']) am (by unfold maxLen;omega) j ?_);intro g l x p C a;have h:=(a.block P y (ar HP.o (by decide) F.o)).trans HP.o;have a:Keep (fun i=>i=P\/(Value.slice A n c).ownBlock=some i) w x:=(Keep.refl _ w).grown a (fun k I=>.inr (.inr I));obtain ⟨O,R⟩:=bx1 h;obtain ⟨q,u,J⟩:=ae h p a;clear h p C a;go_wp2_with fail;have M:=yW x P 0 _ _ (.slice (some (ao g 0)) (n+1) l) q.o;have H:Keep (fun i=>i=P) x (x.setCell (ao P 0) (.slice (some (ao g 0)) (n+1) l)):=Keep.setCell (S:=fun i=>i=P) (Keep.refl _ _) (ao P 0) (.inr rfl) _;have N:=H.own u.o (fun i K e=>ar q.o (by decide) u.o (by rw [K,e]));have G:=J.o.setCell (ao P 0) (.inr (.inl rfl)) (.slice (some (ao g 0)) (n+1) l)
 go_end0
 exact ⟨⟨_,rfl⟩,_,_,M,N,G⟩
theorem iK:cE prog 22 3 (yY 0) 1 8:=⟨underlying22,info_parts (by kernel_rfl),rfl,by decide⟩
theorem ij (A:N0) (zs:N3) (c:Nat) (w:N6) (hA:Rd w A (au .i64 zs)) (hl:zs.length<=17592186043904):Calls prog 50 #[.slice A zs.length c] w fun e w'=>∃v,e=.returned v/\w'.ownsRow w.heap.size 3 1 v zs.length (au .i64 zs)/\an w w':=by
 have q:=fun (w:N6)=>Lib.run_eql_slice_nil (P:=prog) w 22 3 A zs.length c 0 0 underlying22
 cases A with
 | none=>
  have n:zs=[]:=by
   cases zs with
   | nil=>rfl
   | cons z l=>obtain ⟨b,o,h,_⟩:=hA 0 _ rfl;cases h
  subst n;clear q;have q:=fun (w:N6)=>Lib.run_eql_slice_nil (P:=prog) w 22 3 none 0 c 0 0 underlying22;simp only [Option.isNone_none] at q;rw [List.length_nil];go_enter func50,ntmps50;go_wp2;go_ret;exact ⟨_,rfl,yi _ _ _ _,ya _ _⟩
 | some a=>
  go_enter func50,ntmps50;go_wp2_with (at_builtin;refine ew iK _ rfl (.tmp 5) (.tmp 6) rfl w.heap.size _ 0 [] rfl (gE w 3 1) _ zs.length c (au .i64 zs) rfl (hA.alloc _) (by rw [aS];omega) (aV _ _) am (by unfold maxLen;omega) (by simp) ?_);intro x u p g m _ _;have j:=((ya _ w).alloc (x4 _) (.cells #[] 3)).trans m;obtain ⟨i,k⟩:=ab g j;clear g m j;go_wp2;go_ret;exact ⟨_,rfl,i.o,k.o⟩
theorem fQ (b:Nat) (sz:N3) (w:N6) (h:aR 109 w b sz) (hl:sz.length<=17592186043904):Calls prog 53 #[(ap b)] w fun e w'=>∃A c,e=.returned (.slice A sz.length c)/\w'.ownsRow w.heap.size 3 1 (.slice A sz.length c) sz.length (au .i64 sz)/\an w w':=by
 obtain ⟨q,C,L,I,K,J,j,l,n,D⟩:=h;obtain ⟨⟨x,p,E,m⟩,y⟩:=bx4 j;have hc:=ij q sz C w l hl;have u:=aa hc;clear hc j l n D;go_enter func53,ntmps53;go_wp2_with fail;refine u.o.mono ?_;rintro e F ⟨v,rfl,a,k⟩;obtain ⟨H,G,rfl,i⟩:=aB a;obtain ⟨g,B⟩:=ab a k;clear a k i;clear x p E m y;go_wp2;go_ret;exact ⟨_,_,rfl,g.o,B.o⟩
theorem eQ (b:Nat) (sz:N3) (w:N6) (h:aR 109 w b sz):Calls prog 54 #[(ap b)] w fun e w'=>e=.returned (yY ((sz.length-1:Nat):Int))/\w=w':=by
 obtain ⟨m,y,p,l,n,x,a,i,g,j⟩:=h;obtain ⟨⟨u,q,k,o⟩,v⟩:=bx4 a;clear a i g j;go_enter func54,ntmps54;go_wp2;go_ret;exact ⟨rfl,rfl⟩
theorem eR (b:Nat) (sz:N3) (w:N6) (h:aR 109 w b sz):Calls prog 43 #[(ap b)] w fun e w'=>e=.returned (yY (aF sz (sz.length-1):Int))/\w=w':=by
 obtain ⟨m,y,p,l,n,x,a,i,g,j⟩:=h;obtain ⟨⟨u,q,k,o⟩,v⟩:=bx4 a;clear a i g j;go_enter func43,ntmps43;go_wp2;go_ret;exact ⟨rfl,rfl⟩
theorem gN (b:Nat) (sz:N3) (k:Nat) (w:N6) (h:aR 109 w b sz) (hl:sz.length<=17592186043904) (m:k<sz.length-1):Calls prog 55 #[(ap b),yY k] w fun e w'=>e=.returned (.agg #[yY (aF sz k:Int),yY (bI sz k:Int)])/\an w w':=by
 have a:=fun w' (D:an w w')=>eQ b sz w' (h.below D);have G:=h.lt;obtain ⟨M,P,V,Q,U,R,j,F,g,u⟩:=h;obtain ⟨n,x⟩:∃n,sz.length-1=n:=⟨_,rfl⟩;rw [x] at j g u m a;obtain ⟨⟨N,L,T,K⟩,O⟩:=bx4 j;obtain ⟨y,q⟩:=sr sz m;obtain ⟨S,p,rfl,H⟩:=g _ _ y;obtain ⟨E,A,l,C⟩:=g _ _ q;injection l with l;injection l with e3 e4 _
 subst e3;subst e4;rw [show p+(k*2+1)=p+k*2+1 by omega] at C;have J:=aw H;have i:=aa a;have I:n<=17592186043904:=am;clear a j F g u y q x hl;go_enter func55,ntmps55;go_wp2_with fail;refine (i.o _ ?_).mono ?_
 ·exact ak
 rintro e w' ⟨rfl,rfl⟩;have B:(k:Int)<n:=am;go_wp2_with fail;refine yk (v:=.agg #[yY (aF sz k:Int),yY (bI sz k:Int)]) (by simp [results,results55,go_sem]) rfl ⟨rfl,?_⟩;exact ak
theorem iw (b:Nat) (sz:N3) (k:Nat) (w:N6) (h:aR 109 w b sz) (hl:sz.length<=17592186043904) (p:k<sz.length-1):Calls prog 56 #[(ap b),yY k] w fun e w'=>e=.returned (.agg #[yY (bI sz k:Int),yY (aF sz (k+1):Int)])/\an w w':=by
 have a:=fun w' (D:an w w')=>eQ b sz w' (h.below D);have G:=h.lt;obtain ⟨M,P,V,Q,U,R,j,F,m,g⟩:=h;obtain ⟨n,x⟩:∃n,sz.length-1=n:=⟨_,rfl⟩;rw [x] at j m g p a;obtain ⟨⟨N,L,T,K⟩,O⟩:=bx4 j;obtain ⟨y,u⟩:=uL sz p;obtain ⟨S,q,rfl,H⟩:=g _ _ y;obtain ⟨E,A,l,C⟩:=g _ _ u;injection l with l;injection l with e3 e4 _
 subst e3;subst e4;rw [show q+(k*2+1)=q+k*2+1 by omega] at C;have J:=aw H;have i:=aa a;have I:n<=17592186043904:=am;clear a j F m g y u x hl;go_enter func56,ntmps56;go_wp2_with fail;refine (i.o _ ?_).mono ?_
 ·exact ak
 rintro e w' ⟨rfl,rfl⟩;have B:(k:Int)<n:=am;go_wp2_with fail;refine yk (v:=.agg #[yY (bI sz k:Int),yY (aF sz (k+1):Int)]) (by simp [results,results56,go_sem]) rfl ⟨rfl,?_⟩;exact ak
theorem xx (b:Nat) (sz ps:N3) (q:Int) (A:N0) (m c:Nat) (w:N6) (h:dF 109 116 w b sz ps q) (hg:bn sz) (hm:m≠szN sz 0):Calls prog 97 #[(ap b),.slice A m c] w fun e w'=>e=.returned (.tuple #[yZ,.bool false])/\an w w':=by
 obtain ⟨S,R,X,U,W,p,j,n,C,K,F,I,N⟩:=h;obtain ⟨⟨G,D,M,y⟩,H⟩:=bx4 j;have u:=fQ S sz w n (by have:=hg.1.1.2;omega);have v:=hg.1.at (k:=0) (by have:=hg.1.1.1;omega);have a:0<sz.length:=by have:=hg.1.1.1;omega
 have B:((m:Int) != (szN sz 0:Int))=true:=by simp;omega
 obtain ⟨E,L⟩:=ab u v.2.2;clear u j n C K F I N hg v hm;go_enter func97,ntmps97;go_wp2_with fail;refine E.o.mono ?_;rintro e P ⟨T,V,rfl,i,l⟩;obtain ⟨g,Q,x,_,_⟩:=i.form a;simp only [yM] at x;obtain ⟨rfl,_,rfl⟩:=x;have O:=bq i a;rw [L.o] at O;have J:=aa l;clear l i G D M y H;go_wp2;go_ret2;exact ⟨rfl,J.o⟩
theorem kR (w:N6) (e:N7) (v:Value) (base:Nat) (a:base<=w.heap.size):(w.alloc (.cells #[v] e)).ownsRow base e 1 (.slice (some (ao w.heap.size 0)) 1 1) 1 [v]:=
 ⟨by simp,.inr ⟨w.heap.size,1,#[v],rfl,a,x6 w _,x4 _,by unfold maxLen;omega,by simp,by simp⟩⟩
def xn (sz ps:N3) (q:Int) (x:N3) (P n₀:Nat) (k:Nat) (h w:N6):Prop:=
 ∃A c a,w.heap[P]?=some (.cells #[.slice A (k+1) c] 124 (0,0))/\w.ownsRow n₀ 60 1 (.slice A (k+1) c) (k+1) a/\
  (∀j,j<=k->∃g e,a[j]?=some (.slice g (szN sz j) e)/\w.ownsRow n₀ 2 1 (.slice g (szN sz j) e) (szN sz j) (au .i64 (bi sz ps q x j)))/\Below n₀ h w
theorem sE (b:Nat) (sz ps:N3) (q:Int) (A:N0) (x:N3) (c:Nat) (w:N6) (h:dF 109 116 w b sz ps q) (hg:bn sz) (wp:W64 ps) (hA:Rd w A (au .i64 x)) (hx:x.length=szN sz 0) (wx:W64 x):Calls prog 97 #[.pointer (some ⟨b,0,none⟩),.slice A x.length c] w fun e w'=>∃A' c' v,e=.returned (.tuple #[.slice A' sz.length c',.bool true])/\Rd w' A' v/\dM w' v sz.length (bi sz ps q x)/\sz.length<=c'/\an w w':=by
 have bF:=h.lt;obtain ⟨S,Ap,cp,Al,cl,N,h0,h1,h2,h3,h4,h5,h6⟩:=h;obtain ⟨⟨r0,r1,r2,r3⟩,rf⟩:=bx4 h0;have z0:=hg.1.at (k:=0) (by have:=hg.1.1.1;omega);have hs:=fQ S sz w h1 (by have:=hg.1.1.2;omega);have C:=fun w' (k:an w w')=>cS A x c w' (hA.below k) am;obtain ⟨n,hn⟩:∃n,sz.length-1=n:=⟨_,rfl⟩;have a9:sz.length=n+1:=by have:=hg.1.1.1;omega
 have en:1<=n/\n<=15:=by have:=hg.1.1;omega
 obtain ⟨m,hm⟩:∃m,szN sz 0=m:=⟨_,rfl⟩;rw [hn] at r3 h4 h6;rw [hx,hm] at C ⊢;have b7:0<sz.length:=am;have b8:((m:Int) != (m:Int))=false:=by simp
 have f0:m<=1048576:=by rw [<-hm];exact z0.2.1
 rw [hm] at z0;obtain ⟨Hs,Z0,dT,HG,Hn,a7,Hm,H0⟩:=aj hs z0.2.2 C hg hn a9 hm h0;obtain ⟨H3,H4,H5,H6,WP,WX,Hx,HA⟩:=aj h3 h4 h5 h6 wp wx hx hA;clear hs C h0 h1 h2 h3 h4 h5 h6 hg z0 hm hn a9 wp wx hx hA;go_enter func97,ntmps97;go_wp2_with fail;refine Hs.o.mono ?_;rintro e w1 ⟨A1,c1,rfl,ho,hb⟩;obtain ⟨g,c',hv,_,_⟩:=ho.form b7;simp only [yM] at hv;obtain ⟨rfl,_,rfl⟩:=hv;have p0:=bq ho b7;rw [Z0.o] at p0;have Hb:=aa hb;clear hb ho r0 r1 r2 r3 rf;go_wp2_with fail;refine (dT.o _ Hb.o).mono ?_;rintro e w2 ⟨A2,c2,rfl,eX,cm,bC⟩;have a4:=Hb.o.trans (bC.mono Hb.o.size);have av:=(a4.block b bF).trans H0.o;obtain ⟨⟨r0,r1,r2,r3⟩,rf⟩:=bx4 av;have e7:=xZ av;have da:=Hx.o;rw [Hm.o] at da;have b6:=Hb.o.size;obtain ⟨cz,a2,ef⟩:=ae (aA cm b6) a4 av;clear cm bC a4 av b6;rw [Hn.o] at r3;go_wp2_with fail
 go_loopw [37] (fun i wr=>∃k:Nat,k<=n/\i=yY k/\xn sz ps q x (w2.heap.size+1) w.heap.size k w wr) (fun i _=>n-(intOf i).toNat)
 case atStart=>
  refine ⟨0,yb _,rfl,some ⟨w2.heap.size,0,none⟩,1,[.slice A2 m c2],?_,?_,?_,?_⟩
  ·have:=x6 (w2.alloc (.cells #[.slice A2 m c2] 60)) (.cells #[.slice (some ⟨w2.heap.size,0,none⟩) 1 1] 124);simpa using this
  ·exact (kR w2 60 (.slice A2 m c2) w.heap.size a2.o.size).alloc _
  ·intro j hj;obtain rfl:j=0:=am;refine ⟨A2,c2,by rw [Hm.o];rfl,?_⟩;rw [Hm.o];exact (cz.o.alloc _).alloc _
  ·have a4:=a2.o;have ev:=a2.o.size;exact ak
 case round=>
  obtain ⟨k,hk,rfl,Ao,co,v,hP,ho,hv,hW⟩:=hrel;have d8:k<sz.length:=by have:=a7.o;omega
  have a8:=(hW.block b bF).trans H0.o;obtain ⟨⟨r0,r1,r2,r3⟩,rf⟩:=bx4 a8;obtain ⟨p0,pf⟩:=bx1 hP;obtain ⟨go,e9,bN,f2,_⟩:=ho.form am;simp only [yM] at bN;obtain ⟨rfl,dh,rfl⟩:=bN;clear dh;have dk:=xZ hP;have eP:b<wr.heap.size:=xZ a8;have hz:=hW.size;obtain ⟨HP,Ho,Hv,HW,ex⟩:=ag hP ho hv hW a8;clear hP ho hv hW a8;rw [Hn.o] at r3;by_cases I:k<n
  ·have hR:=HG.o.1;have c3:k+1<sz.length:=by have:=a7.o;omega
   have z0:=hR.at d8;have z1:=hR.at c3;have bO:=HG.o.mul c3;obtain ⟨gl,ol,dl,Bl,el,ck,hd,cr,c9⟩:=H6.o k I;have dr:(aK N k).length=4:=H5.o _ (by rw [kJ (by rw [H4.o];exact I)];exact List.getElem_mem _);have C:∀t,t<4->(List.flatten N)[k*4+t]?=(aK N k)[t]?:=fun t ht=>fX H5.o k t (by rw [H4.o];exact I) ht;have e0:=C 0 am;have L:=C 1 am;have e2:=C 2 am;have e3:=C 3 am;rw [ck] at e0 L e2 e3;simp only [Nat.add_zero,yx,yw] at e0 L e2 e3;obtain ⟨bl,oo,d0,q0⟩:=H3.o _ _ e0;obtain ⟨_,_,T,q1⟩:=H3.o _ _ L;obtain ⟨_,_,M,q2⟩:=H3.o _ _ e2;obtain ⟨_,_,U,q3⟩:=H3.o _ _ e3;subst d0;injection T with T;injection T with i1 i2 _;subst i1;subst i2
   injection M with M;injection M with i1 i2 _;subst i1;subst i2
   injection U with U;injection U with i1 i2 _;subst i1;subst i2
   have ad:bl<w.heap.size:=aw q0;have cd:=(HW.o.cell (p:=⟨bl,oo+k*4,none⟩) ad).trans q0;have b9:=(HW.o.cell (p:=⟨bl,oo+(k*4+1),none⟩) ad).trans q1;have bm:=(HW.o.cell (p:=⟨bl,oo+(k*4+2),none⟩) ad).trans q2;have bc:=(HW.o.cell (p:=⟨bl,oo+(k*4+3),none⟩) ad).trans q3;rw [<-yQ] at b9 bm bc;obtain ⟨Aj,cj,cv,bB⟩:=Hv.o k (x4 _);have pj:=(Rd.own Ho.o) k _ cv;obtain ⟨_,_,ej,pj⟩:=pj;injection ej with ej;injection ej with i1 i2 _;subst i1;subst i2
   rw [yR] at pj;have wv:=ir (sz:=sz) (ps:=ps) (q:=q) WX.o k;have Q:=cw (sz:=sz) (ps:=ps) (q:=q) Hx.o k;have Y:=fun W (h:an wr W)=>tM (szN sz (k+1)) (szN sz k) gl ol (szN sz (k+1)*szN sz k) dl (wL sz ps k) Aj (bi sz ps q x k) cj q W ⟨z1.1,z1.2.1⟩ ⟨z0.1,z0.2.1⟩ rfl hd am (nT _ _ _) ((cr.below HW.o).below h) (ss WP.o sz k) ((Rd.own bB).below h) Q wv;obtain ⟨r,hr⟩:∃r,szN sz (k+1)=r:=⟨_,rfl⟩;obtain ⟨c0,a5⟩:∃c0,szN sz k=c0:=⟨_,rfl⟩;obtain ⟨nn,bo⟩:∃nn,szN sz (k+1)*szN sz k=nn:=⟨_,rfl⟩;rw [bo] at Y bm bO hd;rw [hr] at Y cd bc z1;rw [a5] at Y b9 z0;have bd:=pj;rw [a5] at bd;have b3:=c9.below HW.o;obtain ⟨dp,Hr,d4,e8,c7,eM⟩:=ah Y hr a5 bo b3 Q;clear Y hr a5 bo c9 b3 cr hd q0 q1 q2 q3 e0 L e2 e3 C dr ck pj Q cv bB;go_wp2_with fail;obtain ⟨V,hV⟩:∃V,V=wr.alloc (.cells #[yY r,yY c0,.slice (some ⟨gl,ol,none⟩) nn dl,.slice Bl r el] 123):=⟨_,rfl⟩;have bg:V.heap[wr.heap.size]?=some (.cells #[yY r,yY c0,.slice (some ⟨gl,ol,none⟩) nn dl,.slice Bl r el] 123 (0,0)):=by rw [hV];exact x6 wr _
   have K:an wr V:=by rw [hV];exact (ya _ _).alloc (x4 _) _
   rw [<-hV];clear hV;have v2:=aq K r2;have v3:=aq K r3;have vp:=aq K p0;have vj:=aq K bd;obtain ⟨⟨y0,y1,y2,y3⟩,yf⟩:=bx4 bg;have bv:b<V.heap.size:=aw v2;have d2:w2.heap.size+1<V.heap.size:=aw vp;have eZ:wr.heap.size<V.heap.size:=aw y0;have ek:go<V.heap.size:=aw vj;obtain ⟨k1,P⟩:∃k1,k+1=k1:=⟨_,rfl⟩;have ez:k<k1:=am;rw [P] at vp;have eY:=aa P;clear P;obtain ⟨F,eq⟩:=ab K bg;clear K bg r0 r1 r2 r3 rf p0 pf bd cd b9 bm bc
   go_region_held3 (fun w'=>w'.cell? ⟨wr.heap.size,0,none⟩=some (yY r)/\w'.cell? ⟨wr.heap.size,1,none⟩=some (yY c0)/\w'.cell? ⟨wr.heap.size,2,none⟩=some (.slice (some ⟨gl,ol,none⟩) nn dl)/\w'.cell? ⟨w2.heap.size+1,0,none⟩=some (.slice (some ⟨go,0,none⟩) k1 co)/\w'.cell? ⟨go,k,none⟩=some (.slice Aj c0 cj)/\w'.cell? ⟨b,2,none⟩=some (yY q)) (simp [go_sem, *])
    ((go_at_call 133;refine (dp.o V.drew F.o.drew).mono ?_;rintro e w5 ⟨A5,c5,rfl,bs,B⟩;have g0:=aq B y0;have g1:=aq B y1;have g2:=aq B y2;have g3:=aq B y3;have g4:=aq B vp;have g5:=aq B vj;have g6:=aq B v2;have g7:=aq B v3;obtain ⟨a6,a3⟩:=ab bs B;clear bs B))
   go_wp2_with fail;have b5:an wr w5:=(F.o.drew).trans (a3.o.mono (by have:=F.o.size;simp;omega))
   have b8:∀a b',A5=some a->Bl=some b'->a.block≠b'.block:=fun a b' ha ds=>by
    obtain ⟨b1,o1,L,d6⟩:=c7.o.num (k:=0) (by rw [uM,Hr.o];omega);rw [ds] at L;injection L with L
    subst L;have l1:b1<wr.heap.size:=aw d6;have l2:=(a6.o.lt a.block (by rw [ha];rfl)).1;have l3:=F.o.size;simp at l2 ⊢;omega
   refine (mr _ A5 Bl _ (bL sz ps k) r c5 el w5 a6.o (c7.o.below b5) (by rw [uM,Hr.o]) am b8).mono ?_;rintro e w6 ⟨rfl,O,cg⟩;have bw:eK (rD (wL sz ps k) r c0 (bi sz ps q x k) q) (bL sz ps k)=zL sz ps q k (bi sz ps q x k):=by unfold zL;rw [Hr.o,d4.o]
   rw [bw] at O;have O:=aA (base':=V.heap.size) O (by simp);have a1:∀i,(Value.slice A5 r c5).ownBlock=some i->V.heap.size<=i:=fun i hi=>by have:=(a6.o.lt i hi).1;simpa using this
   have a0:an V w6:=((ya _ V).drew.trans (a3.o.mono (by simp))).trans (cg.toBelow (by have:=a3.o.size;simpa using this) a1);have u2:=(a0.cell (p:=⟨b,2,none⟩) bv).trans v2;have u3:=(a0.cell (p:=⟨b,3,none⟩) bv).trans v3;have up:=(a0.cell (p:=⟨w2.heap.size+1,0,none⟩) d2).trans vp;obtain ⟨bG,bD,e5⟩:=ae O a0 a1;have c4:IntKind.i64.wrap ((k:Int)+1)=(k:Int)+1:=yc _ am;have ee:=aa c4;clear c4 O a0 cg bw a1 b8 a6 a3 b5 g0 g1 g2 g3 g4 g5 g6 g7 v2 v3 vp vj y0 y1 y2 y3 yf
   go_upto_if 67 with (fail)
   go_cut [] (fun wx=>an V wx/\wx.ownsRow V.heap.size 2 1 (.slice A5 r c5) r (au .i64 (bi sz ps q x (k+1))))
   case first=>
    by_cases be:k+1<n
    ·have D:bi sz ps q x (k+1)=kL (zL sz ps q k (bi sz ps q x k)):=by
      have:=Hn.o
      show (if k+1<sz.length-1 then _ else _)=_
      rw [if_pos am]
     have R:=lH sz ps q k (bi sz ps q x k);rw [Hr.o] at R;obtain ⟨z,hz⟩:∃z,zL sz ps q k (bi sz ps q x k)=z:=⟨_,rfl⟩;rw [hz] at R D;have J:=bG.o;rw [hz] at J;have b2:=eu z (fun i=>max (nth z i) 0);unfold kL at D;rw [<-b2,R] at D;obtain ⟨cy,bb,bk⟩:=ae R J D;clear b2 R hz D J u2 u3 up;go_wp2_with fail;have b0:decide ((k:Int)+1<n)=true:=yS am;rw [b0];clear be b0
     go_loopw [70] (fun i wx=>∃j:Nat,j<=r/\i=yY j/\wx.ownsRow V.heap.size 2 1 (.slice A5 r c5) r (au .i64 (eU z j (fun i=>max (nth z i) 0)))/\an V wx) (fun i _=>r-(intOf i).toNat)
     ·exact ⟨0,yb _,rfl,by rw [dL];exact bb.o,bD.o⟩
     case round=>
      obtain ⟨j,hj,rfl,y,E⟩:=hrel;by_cases I:j<r
      ·obtain ⟨g7,d7,bV,dv,_⟩:=y.form am;simp only [yM] at bV;obtain ⟨rfl,dG,rfl⟩:=bV;clear dG;have bh:j<z.length:=by rw [cy.o];exact I
       have p1:=bq y I;rw [dt _ bh,if_neg am] at p1;have f1:=y.frozenAt j;have bA:=et (l:=z) (k:=j) (fun i=>max (nth z i) 0) bh;obtain ⟨HO,HB,d9⟩:=ae y E bA;clear y E bA bh;go_wp2_with fail;refine (te _ _).mono ?_;rintro e w9 ⟨rfl,rfl⟩;go_wp2_with fail;go_roundw
       ·exact ⟨j+1,by omega,by go_num,by rw [<-d9.o];exact cU HO.o j _,HB.o.setCell (p:=⟨g7,j,none⟩) dv _⟩
       ·simp [intOf];omega
      ·obtain rfl:j=r:=am;obtain ⟨HO,HB⟩:=ab y E;clear y E;go_wp2_with fail;go_meet;exact ⟨HB.o,by rw [bk.o];exact HO.o⟩
    ·have D:bi sz ps q x (k+1)=zL sz ps q k (bi sz ps q x k):=by
      have:=Hn.o
      show (if k+1<sz.length-1 then _ else _)=_
      rw [if_neg am]
     have bk:=aa D;clear D;go_wp2_with fail;go_meet;exact ⟨bD.o,by rw [bk.o];exact bG.o⟩
   case rest=>
    obtain ⟨E,J⟩:=hcut;have H:an wr wc:=F.o.trans (E.mono F.o.size);have cs:=(H.block _ dk).trans HP.o;have b4:=az Ho.o H;obtain ⟨ei,bb,bp,G,Z⟩:=ag E J cs b4 H;clear E J cs b4 H u2 u3 up;have ce:w.heap.size<=wc.heap.size:=by have:=Z.o.size;omega
    have cx:w.heap.size<=w2.heap.size+1:=by have:=a2.o.size;omega
    have cc:=nX (w2.heap.size+1) w.heap.size (some ⟨go,0,none⟩) A5 (k+1) co r c5 v wc bp.o G.o am ce cx;have d3:=aa cc;clear cc;go_wp2_with fail;refine d3.o.mono ?_;rintro e w8 ⟨⟨v8,rfl⟩,A8,c8,d5,cA,ct⟩
    have cb:an w w8:=(HW.o.trans (Z.o.mono HW.o.size)).trans (ct.toBelow ce (fun i hi=>by
     rcases hi with rfl | hi
     ·exact cx
     ·exact (G.o.lt i hi).1))
    have X:∀{m:Nat} {u:Value} {ys:N5},wc.ownsRow w.heap.size 2 1 u m ys->w8.ownsRow w.heap.size 2 1 u m ys:=fun h=>ct.own h (fun i hi e=>by
     rcases e with rfl | e
     ·exact ar bp.o (by decide) h hi.symm
     ·exact es G.o h (by decide) i e hi)
    have e6:=G.o.1;go_wp2_with fail;go_roundw
    case rel=>
     refine ⟨k+1,by omega,by go_num,A8,c8,v++[.slice A5 r c5],d5,cA,fun j hj=>?_,cb⟩;rcases yl j (k+1) with dm | dm
     ·obtain ⟨Aj,cj,h1,h2⟩:=Hv.o j am;exact ⟨Aj,cj,by rw [yD am];exact h1,X (az h2 Z.o)⟩
     ·obtain rfl:j=k+1:=am;refine ⟨A5,c5,?_,?_⟩
      ·rw [yE am,Hr.o];simp [show v.length=k+1 by omega]
      ·rw [Hr.o];exact X (aA bb.o (by have:=F.o.size;omega))
    case measure=>simp [intOf];omega
  ·obtain rfl:k=n:=am;have a9:=a7.o
   have bM:dM wr v sz.length (bi sz ps q x):=by
    refine ⟨?_,fun j hj=>?_⟩
    ·have:=Ho.o.1;omega
    ·obtain ⟨Aj,cj,h1,h2⟩:=Hv.o j am;have Q:=cw (sz:=sz) (ps:=ps) (q:=q) Hx.o j;obtain ⟨A',c',e,hc⟩:=aB h2;injection e with L e2 e3
     subst L;subst e3;rw [Q];exact ⟨_,_,h1,hc,Rd.own h2⟩
   have c6:sz.length<=co:=by
    obtain ⟨A',c',e,hc⟩:=aB Ho.o;injection e with L e2 e3
    omega
   have bz:=Rd.own Ho.o;obtain ⟨dc,d1,e4⟩:=ae bz bM c6;clear bz bM c6;clear a9;go_wp2_with fail;go_ret2;exact ⟨some ⟨go,0,none⟩,co,v,(by rw [a7.o];rfl),dc.o,d1.o,e4.o,HW.o⟩
def eV (a y:N3):N3:=bH a.length fun i=>wrap64 (nth a i-nth y i)
theorem lh (a y:N3):(eV a y).length=a.length:=aG _ _
theorem li (a y:N3):W64 (eV a y):=cY fun _ _=>dg _
theorem qg (b:Nat) (sz ps:N3) (q:Int) (A B:N0) (x y:N3) (c d:Nat) (w:N6) (h:dF 109 116 w b sz ps q) (hg:bn sz) (wp:W64 ps) (hA:Rd w A (au .i64 x)) (hx:x.length=szN sz 0) (wx:W64 x) (hB:Rd w B (au .i64 y)) (hy:y.length=szN sz (sz.length-1)):Calls prog 58 #[(ap b),.slice A x.length c,.slice B y.length d] w fun e w'=>∃A' c' D Y u,e=.returned (.tuple #[.slice A' sz.length c',.slice D y.length Y,.bool true])/\Rd w' A' u/\dM w' u sz.length (bi sz ps q x)/\sz.length<=c'/\
   w'.ownsRow w.heap.size 2 1 (.slice D y.length Y) y.length (au .i64 (eV (bi sz ps q x (sz.length-1)) y))/\an w w':=by
 have ht:=sE b sz ps q A x c w h hg wp hA hx wx;have R:=cw (sz:=sz) (ps:=ps) (q:=q) hx (sz.length-1);have hl:=hg.1.1;have a2:=(hg.1.at (k:=sz.length-1) am).2.1;have E:((y.length:Int) != (szN sz (sz.length-1):Int))=false:=by simp;omega
 obtain ⟨n,hn⟩:∃n,sz.length=n:=⟨_,rfl⟩;obtain ⟨m,hm⟩:∃m,y.length=m:=⟨_,rfl⟩;rw [hn] at ht hl R E hy a2 ⊢;rw [<-hy,hm] at R E a2;rw [hm];obtain ⟨a,ha⟩:∃a,bi sz ps q x (n-1)=a:=⟨_,rfl⟩;have G:=eu a (fun i=>wrap64 (nth a i-nth y i));rw [ha] at R ⊢;unfold eV;rw [<-G,R];clear G;have Ha:=aa ha;clear ha;obtain ⟨Ht,Hv,HB,Hm⟩:=af ht R hB hm;clear ht h hg wp hA hx wx hn R hm hB hy;obtain ⟨b3,b6⟩:=hl;go_enter func58,ntmps58;go_wp2_with fail;refine Ht.o.mono ?_;rintro e w1 ⟨A',c',u,rfl,hr,P,hc,hb⟩;obtain ⟨Aj,cj,e1,e2,e3⟩:=P.2 (n-1) am;rw [Ha.o,Hv.o] at e1 e2;rw [Ha.o] at e3;have a3:=hr;obtain ⟨bo,oo,rfl,p0⟩:=hr _ _ e1;have T:(n:Int)-1=((n-1:Nat):Int):=am;have hw:IntKind.i64.wrap ((n:Int)-1)=((n-1:Nat):Int):=by rw [yc _ am];omega
 have hi:((n-1:Nat):Int)<n:=am;have a6:n-1<n:=am;have J:=Hv.o;have Q:=cS Aj a cj w1 e3 am;rw [J] at Q;obtain ⟨av,b1,Hb,a8,b0,Hc⟩:=ah Q J hb P a3 hc;clear hr a3 P e1 e2 e3 hb Q J hc;rw [T] at hw;go_wp2_with fail;refine av.o.mono ?_;rintro e w2 ⟨D,Y,rfl,b2,v,O⟩;have X:=Hb.o.trans (O.mono Hb.o.size);have a5:=Hb.o.size;have W:=aa v;have v:=aA v a5;obtain ⟨U,S,a0⟩:=ae X v O;clear X v O p0 hw T hi a6 E;go_wp2_with fail
 go_loopw [42] (fun i wr=>∃k:Nat,k<=m/\i=yY k/\wr.ownsRow w.heap.size 2 1 (.slice D m Y) m (au .i64 (eU a k (fun i=>wrap64 (nth a i-nth y i))))/\Keep (fun i=>(Value.slice D m Y).ownBlock=some i) w2 wr) (fun i _=>m-(intOf i).toNat)
 ·exact ⟨0,yb _,rfl,by rw [dL];exact S.o,Keep.refl _ _⟩
 case round=>
  obtain ⟨k,hk,rfl,j,I⟩:=hrel;by_cases L:k<m
  ·obtain ⟨g7,d7,a1,b5,_⟩:=j.form am;simp only [yM] at a1;obtain ⟨rfl,ad,rfl⟩:=a1;clear ad;have M:k<a.length:=by rw [b1.o];exact L
   have p1:=bq j L;rw [dt _ M,if_neg am] at p1;have f1:=j.frozenAt k;have V:=et (l:=a) (k:=k) (fun i=>wrap64 (nth a i-nth y i)) M;obtain ⟨C,oy,rfl,py⟩:=HB.o.num (show k<y.length by rw [Hm.o];exact L);have a7:C<w.heap.size:=aw py;have E:g7≠C:=am;have Z:an w wr:=U.o.trans (I.toBelow U.o.size (fun i hi=>(S.o.lt i hi).1));have a9:=(Z.cell (p:=(ao C (oy+k))) a7).trans py;obtain ⟨HO,HK,a4⟩:=ae j I V;clear j I V M Z py;go_wp2_with fail;have b4:(k:Int)<m:=am;have F:(fun w':N6=>w'.cell? (ao g7 k)=some (yY (nth a k))/\w'.cell? (ao C (oy+k))=some (yY (nth y k))) wr.drew:=⟨p1,a9⟩;refine XA.g 11 (fun w':N6=>w'.cell? (ao g7 k)=some (yY (nth a k))/\w'.cell? (ao C (oy+k))=some (yY (nth y k))) ?_;refine XA.t ?_ [0,1,2,3,4,5,6,7,8,9] F ?_;refine XA.o 10 (fun K I=>?_);go_simp;refine (pM _ _ _).mono ?_;rintro e w9 ⟨rfl,rfl⟩;dsimp only;refine I.out _ _ F (fun F=>?_);clear I K F;refine XA.e ?_;simp only [yy,yz];go_wp2_with fail;go_roundw
   case rel=>
    refine ⟨k+1,by omega,by go_num,?_,?_⟩
    ·rw [<-a4.o];exact cU (aZ HO.o 1) k _
    ·exact Keep.setCell (HK.o.drewN 1) (ao g7 k) (.inr rfl) _
   case measure=>simp [intOf];omega
  ·obtain rfl:k=m:=am;have H:an w1 wr:=a0.o.trans (I.toBelow a0.o.size (fun i hi=>(W.o.lt i hi).1));obtain ⟨HO,N⟩:=ab j H;clear j H I;go_wp2_with fail;go_ret3;exact ⟨_,_,_,_,u,rfl,b0.o.below N.o,a8.o.below N.o,Hc.o,HO.o,Hb.o.trans (N.o.mono Hb.o.size)⟩
def gQ (sz ps:N3) (q:Int) (x y:N3):Int:=ke (eV (bi sz ps q x (sz.length-1)) y) (eV (bi sz ps q x (sz.length-1)) y) q
theorem vD (b:Nat) (sz ps:N3) (q:Int) (A B:N0) (x y:N3) (c d:Nat) (w:N6) (h:dF 109 116 w b sz ps q) (hg:bn sz) (wp:W64 ps) (hA:Rd w A (au .i64 x)) (E:x.length=szN sz 0) (K:W64 x) (Q:Rd w B (au .i64 y)) (m:y.length=szN sz (sz.length-1)):Calls prog 18 #[(ap b),.slice A x.length c,.slice B y.length d] w fun e w'=>e=.returned (.tuple #[yY (gQ sz ps q x y),.bool true])/\an w w':=by
 have hm:=qg b sz ps q A B x y c d w h hg wp hA E K Q m;have a:(eV (bi sz ps q x (sz.length-1)) y).length=y.length:=by rw [lh,cw E,m]
 have C:=(hg.1.at (k:=sz.length-1) (by have:=hg.1.1;omega)).2.1;rw [<-m] at C;have p:=h.lt;obtain ⟨S,Ap,cp,Al,cl,M,J,l,V,h3,Y,h5,h6⟩:=h;unfold gQ;obtain ⟨e,G⟩:∃e,eV (bi sz ps q x (sz.length-1)) y=e:=⟨_,rfl⟩;have P:W64 e:=G▸li _ _;rw [G] at hm a ⊢;obtain ⟨Hm,i,U,O⟩:=af hm a J P;clear hm a J l V h3 Y h5 h6 G P hA E K Q m wp hg;go_enter func18,ntmps18;go_wp2_with fail;refine Hm.o.mono ?_;rintro X R ⟨A',c',D,H,I,rfl,hr,v,hc,N,u⟩;have l:=(u.block b p).trans U.o;obtain ⟨⟨Z,W,r2,T⟩,rf⟩:=bx4 l;have g:=Rd.own N;have n:=qn D D e e H H q R g g rfl (by rw [i.o];omega) O.o O.o;rw [i.o] at n;obtain ⟨Hd,L⟩:=ab n u;clear hr v hc N u l g n;go_wp2_with fail;refine Hd.o.mono ?_;rintro X w2 ⟨rfl,j⟩;have F:=aa j;clear j Z W r2 T rf;go_wp2;go_ret2;exact ⟨rfl,L.o.trans (F.o.mono L.o.size)⟩
end Go.Proofs.YthamijnggdjaoaaGreat
namespace Go.Proofs.YthamijnggdjaoaaGreat
open Go.RowKit Go.Shelf
open Tryz
theorem lY {l n:Nat} {P:Program} {row:String} {args:N4} {w:N6} {R:Value->N6->Prop} (h:Rows P row args w R):RowsIn (Fence.wide.inRound l) n P row args w R:=
 fun c a _=>let ⟨v,w',r,s⟩:=h c a;⟨v,w',r,(stepsIn_wide (P:=P)).2 s⟩
theorem l5 {l n:Nat} {P:Program} {o:Oper} {a:Na} {w:N6} {K:Na->N6->Prop} {Q:Exit->Na->N6->Prop} (e:∀c,o.op≠.defer c) (h:o.wp P a w K Q):o.wpIn (Fence.wide.inRound l) n P a w K Q:=by
 unfold Oper.wp at h;unfold Oper.wpIn;refine ⟨fun _ _=>trivial,?_⟩;rw [Oper.semAt_plain _ _ _ e];generalize (execOp a.eval o).run P w=r at *
 cases r with
 | ok x w'=>
  cases x<;>simp only [Oper.upon,Oper.uponIn] at h ⊢<;>
   first
    | exact h
    | exact ⟨fun g=>(by cases g),CallsIn.inRound l (callsIn_wide.2 h)⟩
    | exact ⟨fun g=>(by cases g),lY h⟩
    | exact h.elim
 | halt x w'=>cases x<;>simp only [Oper.upon,Oper.uponIn] at h ⊢<;>exact h
theorem lI {l n:Nat} {P:Program} {ops:N9} {Q:Exit->Na->N6->Prop} (j:∀(i:Nat) (o:Oper),ops[i]?=some o->∀c,o.op≠.defer c) (g:¬LetsOut Q) {i:Nat} {K:Na->N6->Prop} {a:Na} {w:N6} (h:wpOp P ops Q i K a w):wpOpIn (Fence.wide.inRound l) n P ops Q i K a w:=by
 unfold wpOp at h;unfold wpOpIn
 split at h
 ·rename_i e;simp only [e];exact h
 ·rename_i o e
  simp only [e]
  split at h
  ·rename_i hw
   rw [if_pos hw];rcases h with h | ⟨_,h⟩
   ·exact l5 (j i o e) h
   ·exact absurd h g
  ·rename_i hw
   rw [if_neg hw];exact ⟨fun _ _=>trivial,h⟩
theorem gL {l n:Nat} {P:Program} {m:Region.Mode} {ops:N9} {Q:Exit->Na->N6->Prop} (k:∀(i:Nat) (o:Oper),ops[i]?=some o->∀c,o.op≠.defer c) (j:¬LetsOut Q):∀(e:Nat) (g:Array Bool) (a:Na) (w:N6),
  wpAny P m ops Q e g a w->wpAnyIn (Fence.wide.inRound l) n P m ops Q e g a w
 | 0,_,_,_,h=>h
 | e+1,_,_,_,h=>⟨h.1,fun i u=>wpOpIn_mono (fun q w' p=>gL k j e _ q w' p) (lI k j (h.2 i u))⟩
def xY:Op->Bool
 | .defer _=>true
 | _=>false
theorem vu {ops:N9} (h:ops.all (fun o=> !xY o.op)=true):∀(i:Nat) (o:Oper),ops[i]?=some o->∀c,o.op≠.defer c:=fun i o a c e=>by
 have:=(Array.all_eq_true.1 h) i (Array.getElem?_eq_some_iff.1 a).1;rw [(Array.getElem?_eq_some_iff.1 a).2,e] at this
 cases this
theorem fR {l n:Nat} {P:Program} {ops:N9} {Q:Exit->Na->N6->Prop} (S:N6->Prop) {id:Nat} {a:Na} {w:N6} (hm:P.follows .mixedOrders=true) (e:ops.all (fun o=> !xY o.op)=true) (g:¬LetsOut Q) (h:wpAnyH P .any ops Q S ops.size (Array.replicate ops.size false) a w.drew):(Code.region id ops true).wpIn (Fence.wide.inRound l) n P Q a w:=
 wpIn_region_any hm (gL (vu e) g _ _ _ _ (wpAny_of_held _ _ _ _ h))
attribute [local go_sem] Oper.semAt_some
theorem kT {W:N6} {base:Nat} {e:N7} {size n c G:Nat} {xs:N5} {o:Obj} (h:W.ownsRow base e size (.slice (some (ao G 0)) n c) n xs) (k:W.heap[G]?=some o):o.isCells=true:=by
 rcases h.2 with ⟨l,_⟩ | ⟨g,cap,j,i,_,a,_⟩
 ·cases l
 ·simp only [yM,Option.some.injEq,Addr.mk.injEq] at i;rw [<-i.1.1,k] at a
  cases a;rfl
def gS (ms:N3) (c:Nat) (ys:N3) (q:Int) (a:N3) (k:Nat):N3:=eK a (iS (fW ms c k) (nth ys k) q)
def gR (ms:N3) (r c:Nat) (ys:N3) (q:Int):N3:=(List.range r).foldl (gS ms c ys q) (List.replicate c 0)
theorem lB (ms:N3) (c:Nat) (ys:N3) (q:Int) (a:N3) (k:Nat):(gS ms c ys q a k).length=a.length:=aG _ _
theorem uJ (ms:N3) (r c:Nat) (ys:N3) (q:Int):((List.finRange r).foldl (fun a k=>gS ms c ys q a k.1) (List.replicate c 0))=gR ms r c ys q:=by
 unfold gR;have h:List.range r=(List.finRange r).map (·.1):=List.ext_getElem (by simp) (by simp);rw [h,List.foldl_map]
theorem oX (r c k:Nat) (g o:Nat) (ms:N3) (y q:Int) (W:N6) (h:k<r) (hc:1<=c/\c<=1048576) (a:ms.length=r*c) (hA:Rd W (some (ao g o)) (au .i64 ms)) (m:W64 ms) (l: -9223372036854775808<=y/\y<=9223372036854775807):Calls prog 258 #[.slice (some (ao g (o+k*c))) c c,yY y,yY q] W fun e w'=>∃j i,e=.returned (.slice j c i)/\w'.ownsRow W.heap.size 2 1 (.slice j c i) c (au .i64 (iS (fW ms c k) y q))/\an W w':=by
 have:=qN (some (ao g (o+k*c))) (fW ms c k) c y q W (qe hA h a) (by rw [dU];omega) (nw m h a) l
 rwa [dU] at this
def uW (r c:Nat) (g o i d:Nat) (ms:N3) (B:N0) (ys:N3) (e:Nat) (q:Int) (w:N6) (G N M:Nat) (a:List (Fin r)) (W:N6):Prop:= (W.ownsRow w.heap.size 2 1 (.slice (some (ao G 0)) c c) c (au .i64 (a.foldl (fun h k=>gS ms c ys q h k.1) (List.replicate c 0)))/\Boxed W N 60 (.slice (some (ao G 0)) c c)/\Boxed W (w.heap.size+1) 60 (.slice B r e)/\Boxed W (w.heap.size+1+1) 3 (yY q)/\W.heap[M]?=some (.cells #[yY r,yY c,.slice (some (ao g o)) i d] 119 (0,0)))/\an w W
theorem rW (r c:Nat) (g o n d:Nat) (ms:N3) (B:N0) (ys:N3) (e:Nat) (q:Int) (w:N6) (G N M K:Nat) (k:w.heap.size<=K):OwnFrom K (uW r c g o n d ms B ys e q w G N M):=by
 intro s W v row u hg hr;obtain ⟨⟨j,h,p,i,l⟩,a⟩:=u;have m:=ownFrom_below (β:=Unit) (x4 _) k () W v row a hg hr;exact ⟨⟨nh j hg hr,cq rfl h hg hr,cq rfl p hg hr,cq rfl i hg hr,cq rfl l hg hr⟩,m⟩
theorem rF (r c:Nat) (g o J d:Nat) (ms:N3) (B:N0) (ys:N3) (e:Nat) (q:Int) (w:N6) (hr:1<=r/\r<=1048576) (hc:1<=c/\c<=1048576) (a9:J=r*c) (hd:J<=d) (hm:J<=17592186043904) (bl:ms.length=J) (hA:Rd w (some (ao g o)) (au .i64 ms)) (wm:W64 ms) (hB:Rd w B (au .i64 ys)) (bo:ys.length=r) (wy:W64 ys):Calls prog 229 #[.agg #[yY r,yY c,.slice (some (ao g o)) J d],.slice B r e,yY q] w fun e w'=>∃A' c',e=.returned (.tuple #[.slice A' c c',.bool true])/\w'.ownsRow w.heap.size 2 1 (.slice A' c c') c (au .i64 (gR ms r c ys q))/\an w w':=by
 have b6:=fun w'=>gu r c (some (ao g o)) J d w' hr hc a9 hm;have bg:=fun cs w'=>jO cs w';have bd:(8:Nat)*c<=281474976710656:=am;have c6:=aa bd;clear bd;obtain ⟨bF,bG,ad,bw,bN,HA,HB,WM⟩:=aj b6 bg a9 bl bo hA hB wm;have WY:=aa wy;clear b6 bg a9 bl bo hA hB wm wy;refine (callsIn_wide (n:=3)).1 ?_;refine callsIn_of_wp_marks func229 rfl trivial ?_ rfl;simp only [ntmps229,List.size_toArray,List.length_cons,List.length_nil,Nat.reduceAdd,Nat.reduceSub,Array.replicate_succ,Array.replicate_zero,List.push_toArray,List.append_toArray,List.nil_append,List.cons_append]
 gi_wp2_with fail
 refine ⟨trivial,?_⟩;refine (callsIn_wide.2 (bF.o _)).mono ?_;rintro e w1 ⟨rfl,rfl⟩
 gi_wp2_with (gi_at_make;refine my ik _ rfl (.tmp 22) (.tmp 22) rfl rfl c rfl rfl c6.o (by unfold maxLen;omega) ?_)
 intro U p M;rw [dS] at p;have a3:an w U:=Below.trans (((((ya _ w).alloc (x4 _) _).alloc (by simp) _).alloc (by simp;omega) _).alloc (by simp;omega) _) (M.mono am)
 have h3:U.heap[w.heap.size]?=some (.cells #[yY r,yY c,.slice (some (ao g o)) J d] 119 (0,0)):=by
  refine (M.block w.heap.size am).trans ?_;refine (yj _ _ _ (by first | (simp;done) | (simp;omega))).trans ((yj _ _ _ (by first | (simp;done) | (simp;omega))).trans ((yj _ _ _ (by simp)).trans (x6 w _)))
 have h4:Boxed U (w.heap.size+1) 60 (.slice B r e):=by
  refine (M.block (w.heap.size+1) am).trans ?_;refine (yj _ _ _ (by first | (simp;done) | (simp;omega))).trans ((yj _ _ _ (by simp)).trans ?_);have:=x6 (w.alloc (.cells #[yY r,yY c,.slice (some (ao g o)) J d] 119)) (.cells #[.slice B r e] 60);simpa using this
 have h5:Boxed U (w.heap.size+1+1) 3 (yY q):=by
  refine (M.block (w.heap.size+1+1) am).trans ?_;refine (yj _ _ _ (by simp)).trans ?_;have:=x6 ((w.alloc (.cells #[yY r,yY c,.slice (some (ao g o)) J d] 119)).alloc (.cells #[.slice B r e] 60)) (.cells #[yY q] 3);simpa using this
 obtain ⟨G,hG⟩:∃G,w.heap.size+1+1+1+1=G:=⟨_,rfl⟩;rw [hG] at p M ⊢;obtain ⟨R,bp,HG,H3,H4,H5⟩:=ah p a3 hG h3 h4 h5;obtain ⟨⟨m0,m1,m2⟩,mf⟩:=bx3 h3;have bA:w.heap.size<U.heap.size:=xZ h3;clear p M a3 hG h3 h4 h5
 gi_wp2_with fail
 refine ⟨trivial,?_⟩;refine (callsIn_wide.2 (bG.o _ _)).mono ?_;rintro e w1 ⟨rfl,rfl⟩
 gi_wp2_with fail
 obtain ⟨A,y⟩:∃A,A=U.alloc (.cells #[.slice (some (ao G 0)) c c] 60):=⟨_,rfl⟩;rw [<-y];have a1:A.heap.size=U.heap.size+1:=by rw [y];simp
 have bO:Boxed A U.heap.size 60 (.slice (some (ao G 0)) c c):=by rw [y];exact Boxed.new U _ _
 have b4:Boxed A (w.heap.size+1) 60 (.slice B r e):=by rw [y];exact H4.o.alloc _
 have b5:Boxed A (w.heap.size+1+1) 3 (yY q):=by rw [y];exact H5.o.alloc _
 have r0:A.ownsRow w.heap.size 2 1 (.slice (some (ao G 0)) c c) c (au .i64 (List.replicate c 0)):=by rw [y];exact aA (R.o.alloc _) (by have:=HG.o;omega)
 have S:an w A:=by rw [y];exact bp.o.alloc am _
 have bM:(A.alloc (.cells #[yY r,yY c,.slice (some (ao g o)) J d] 119)).heap[A.heap.size]?=some (.cells #[yY r,yY c,.slice (some (ao g o)) J d] 119 (0,0)):=x6 A _;obtain ⟨N,hN⟩:∃N,N=U.heap.size:=⟨_,rfl⟩;rw [<-hN] at bO a1 ⊢;rw [<-a1];obtain ⟨bz,I,bh,bC,bv,c3,c4,HN⟩:=aj a1 S bM bO b4 b5 r0 hN;have cj:=aa y;clear a1 S bM bO b4 b5 r0 hN y m0 m1 m2 mf bA;have c2:uW r c g o J d ms B ys e q w G N A.heap.size [] (A.alloc (.cells #[yY r,yY c,.slice (some (ao g o)) J d] 119)):=⟨⟨c4.o.alloc _,bC.o.alloc _,bv.o.alloc _,c3.o.alloc _,bh.o⟩,I.o.alloc (by have:=I.o.size;omega) _⟩
 refine' wpIn_rangeFunc_ownG (F:=Fence.wide) (n:=3) rfl am (gf:=219) (lb:=#[(ap A.heap.size)]) rfl trivial (enters_of func219 (by kernel_rfl) rfl)
  (ic _ A.heap.size w.heap.size g o r c J d hr.2 hc ad.o hd _ bh.o) fC (fD (by have:=I.o.size;simp;omega) (by simp)) (ya _ _) (fun _=>rfl)
  (uW r c g o J d ms B ys e q w G N A.heap.size)
  (fun _ _ _=>False)
  (rW r c g o J d ms B ys e q w G N A.heap.size _ (by have:=I.o.size;simp;omega))
  (fun _ _ _ _ _ hs _ _=>hs)
  c2
  _ ?assign ?body ?done ?stop
 case assign=>
  intro l x W K V;unfold iT
  gi_wp2
  exact V
 case body=>
  rintro l bV x W ⟨⟨H,P,Y,Z,a7⟩,a0⟩ b9;have bb:=Y.cell;have bm:=Z.cell;have b0:=P.cell;obtain ⟨L,HO,HM,a2,H4,H5,ck⟩:=ai H P a7 a0 Y Z b9;clear H a7 a0 Y Z b9 P
  have cc:G<W.heap.size:=by
   obtain ⟨g6,d6,C,_,Q⟩:=L.o.form (by omega:0<c);simp only [yM,Option.some.injEq,Addr.mk.injEq] at C;rw [C.1.1];exact Q
  gi_wp2_with fail
  have X:x.1<ys.length:=by rw [bN.o];exact x.2
  have b7:=fun W' (k:an W W')=>oX r c x.1 g o ms (nth ys x.1) q W' x.2 hc (bw.o.trans ad.o) ((HA.o.below a2.o).below k) WM.o (WY.o _ X);have ce:(x.1:Int)<r:=by have:=x.2;omega
  obtain ⟨b2,o2,c5,p2⟩:=(HB.o.below a2.o).num X;subst c5
  have c9:G<N:=by
   obtain ⟨g6,d6,C,_,Q⟩:=R.o.form (by omega:0<c);simp only [yM,Option.some.injEq,Addr.mk.injEq] at C;have:=HN.o;have h7:G<U.heap.size:=by rw [C.1.1];exact Q
   omega
  have b8:¬G=N:=am;have bk:¬G=w.heap.size+1:=by have:=HG.o;omega
  have be:¬G=w.heap.size+1+1:=by have:=HG.o;omega
  have c8:¬G=b2:=by
   obtain ⟨b3,o3,e3,p3⟩:=HB.o.num X;have E:b3<w.heap.size:=aw p3;simp only [Option.some.injEq,Addr.mk.injEq] at e3;have:=HG.o;omega
  have bB:=aa b7;clear b7 X;refine fR (fun w'=>w'.cell? (ao N 0)=some (.slice (some (ao G 0)) c c)/\w'.cell? (ao (w.heap.size+1) 0)=some (.slice (some (ao b2 o2)) r e)/\w'.cell? (ao (w.heap.size+1+1) 0)=some (yY q)/\w'.cell? (ao b2 (o2+x.1))=some (yY (nth ys x.1))) (by kernel_rfl) (by kernel_rfl) (by rintro ⟨_,_,h⟩;exact h) ?_;have m:(fun w':N6=>w'.cell? (ao N 0)=some (.slice (some (ao G 0)) c c)/\w'.cell? (ao (w.heap.size+1) 0)=some (.slice (some (ao b2 o2)) r e)/\w'.cell? (ao (w.heap.size+1+1) 0)=some (yY q)/\w'.cell? (ao b2 (o2+x.1))=some (yY (nth ys x.1))) W.drew:=⟨b0,bb,bm,p2⟩;clear b0 bb bm p2;refine wpAnyH_take (i:=0) (v:=?_) rfl (by kernel_rfl) (by kernel_rfl) (by kernel_rfl) (fun _ _ _ h=>h) (Or.inl ⟨by rfl,?_⟩) m ?_;rotate_left
  ·intro w9 j;(try dsimp only at j);obtain ⟨s1,s2,s3,s4⟩:=j;go_simp;(try with_reducible rfl)
  simp only [yn,yo,yp,Act.put,yq,yr,yt];refine wpAnyH_take (i:=1) (v:=?_) rfl (by kernel_rfl) (by kernel_rfl) (by kernel_rfl) (fun _ _ _ h=>h) (Or.inl ⟨by rfl,?_⟩) m ?_;rotate_left
  ·intro w9 j;(try dsimp only at j);obtain ⟨s1,s2,s3,s4⟩:=j;go_simp;(try with_reducible rfl)
  simp only [yn,yo,yp,Act.put,yq,yr,yt];refine wpAnyH_take (i:=2) (v:=?_) rfl (by kernel_rfl) (by kernel_rfl) (by kernel_rfl) (fun _ _ _ h=>h) (Or.inl ⟨by rfl,?_⟩) m ?_;rotate_left
  ·intro w9 j;(try dsimp only at j);obtain ⟨s1,s2,s3,s4⟩:=j;go_simp;(try with_reducible rfl)
  simp only [yn,yo,yp,Act.put,yq,yr,yt];refine wpAnyH_take (i:=3) (v:=?_) rfl (by kernel_rfl) (by kernel_rfl) (by kernel_rfl) (fun _ _ _ h=>h) (Or.inl ⟨by rfl,?_⟩) m ?_;rotate_left
  ·intro w9 j;(try dsimp only at j);obtain ⟨s1,s2,s3,s4⟩:=j;go_simp;(try with_reducible rfl)
  simp only [yn,yo,yp,Act.put,yq,yr,yt];refine wpAnyH_take (i:=4) (v:=?_) rfl (by kernel_rfl) (by kernel_rfl) (by kernel_rfl) (fun _ _ _ h=>h) (Or.inl ⟨by rfl,?_⟩) m ?_;rotate_left
  ·intro w9 j;(try dsimp only at j);obtain ⟨s1,s2,s3,s4⟩:=j;go_simp;(try with_reducible rfl)
  simp only [yn,yo,yp,Act.put,yq,yr,yt];refine wpAnyH_take (i:=5) (v:=?_) rfl (by kernel_rfl) (by kernel_rfl) (by kernel_rfl) (fun _ _ _ h=>h) (Or.inl ⟨by rfl,?_⟩) m ?_;rotate_left
  ·intro w9 j;(try dsimp only at j);obtain ⟨s1,s2,s3,s4⟩:=j;go_simp;(try with_reducible rfl)
  simp only [yn,yo,yp,Act.put,yq,yr,yt];refine wpAnyH_take (i:=6) (v:=?_) rfl (by kernel_rfl) (by kernel_rfl) (by kernel_rfl) (fun _ _ _ h=>h) (Or.inl ⟨by rfl,?_⟩) m ?_;rotate_left
  ·intro w9 j;(try dsimp only at j);obtain ⟨s1,s2,s3,s4⟩:=j;go_simp;(try with_reducible rfl)
  simp only [yn,yo,yp,Act.put,yq,yr,yt];refine wpAnyH_ready (rs:=[7]) (by kernel_rfl) (by simp) ?_;refine AllReadyH.cons rfl (fun K V=>?_) AllReadyH.nil;simp only [yn,yo,yp];go_simp;refine (bB.o _ ?_).mono ?_
  ·exact (ya _ W).drew
  rintro e w3 ⟨A',c',rfl,u,E⟩;dsimp only;refine V.out _ _ ?_ (fun j=>?_)
  ·exact ⟨aq E m.1,aq E m.2.1,aq E m.2.2.1,aq E m.2.2.2⟩
  clear V K;have a8:=az (w:=W.drew) L.o E
  have a5:∀a b,(some (ao G 0):N0)=some a->A'=some b->a.block≠b.block:=fun a b ha hb=>by
   cases ha;subst hb
   have h1:=(u.form (by omega:0<c));obtain ⟨g5,d5,bc,c7,_⟩:=h1;simp only [yM,Option.some.injEq] at bc;rw [bc.1];have h2:=L.o.form (by omega:0<c);obtain ⟨g6,d6,C,_,Q⟩:=h2;simp only [yM,Option.some.injEq,Addr.mk.injEq] at C;have h7:G<W.heap.size:=by rw [C.1.1];exact Q
   show G≠g5
   have h8:W.heap.size<=g5:=c7;omega
  have a4:=mr w.heap.size (some (ao G 0)) A' _ _ c c c' w3 a8 (Rd.own u) (by unfold iS;rw [aG,dU]) am a5;refine wpAnyH_ready (rs:=[8]) (by kernel_rfl) (by simp) ?_;refine AllReadyH.cons rfl (fun K V=>?_) AllReadyH.nil;simp only [yn,yo,yp,Act.put,yq,yr,yt];obtain ⟨b1,cd,c0,bD⟩:=af a4 a8 u E;clear a4 a8 u E a5;go_simp;refine b1.o.mono ?_;rintro e w4 ⟨rfl,a6,T⟩;dsimp only;refine V.out _ _ ?_ (fun cb=>?_)
  ·exact ⟨T.cell j.1 (by simp [Value.ownBlock];exact b8),T.cell j.2.1 (by simp [Value.ownBlock];exact bk),T.cell j.2.2.1 (by simp [Value.ownBlock];exact be),T.cell j.2.2.2 (by simp [Value.ownBlock];exact c8)⟩
  refine wpAnyH_done (by kernel_rfl) ?_ _;have O:Keep (fun i=>(Value.slice (some (ao G 0)) c c).ownBlock=some i) W w4:=((Keep.refl _ W).drew.trans (Keep.below bD.o)).trans T;have cg:w.heap.size<=G:=by have:=HG.o;omega
  have bs:Below w.heap.size W w4:=O.toBelow a2.o.size (fun k hk=>by simp [Value.ownBlock] at hk;omega);have c1:¬G=A.heap.size:=by have:=bz.o;omega
  have av:=(O.block _ (xZ HM.o) (by simp [Value.ownBlock];exact c1)).trans HM.o;refine ⟨(fT O fun k o hk ho=>?_).from _,⟨bs,fun _=>av.trans HM.o.symm⟩,⟨⟨?_,?_,?_,?_,av⟩,a2.o.trans bs⟩⟩
  ·simp only [Value.ownBlock,Option.some.injEq] at hk;subst hk;exact kT L.o ho
  ·rw [List.foldl_append];exact a6
  ·exact (O.block _ (xZ HO.o) (by simp [Value.ownBlock];exact b8)).trans HO.o
  ·exact (O.block _ (xZ H4.o) (by simp [Value.ownBlock];exact bk)).trans H4.o
  ·exact (O.block _ (xZ H5.o) (by simp [Value.ownBlock];exact be)).trans H5.o
 case done=>
  rintro D zs W hD rfl ⟨⟨H,P,Y,Z,a7⟩,a0⟩ V;have hc:=P.cell
  gi_wp2
  refine ⟨by simp,.inl ⟨_,_,rfl,run_takeDeferred V,?_⟩⟩;rw [uJ] at H;refine ⟨.tuple #[.slice (some (ao G 0)) c c,.bool true],by simp [results,results229,go_sem],_,_,rfl,ownsRow_putObj H _ V rfl,a0.trans (belowK_b (w:=w) (x4 _) W D _ _ (by have:=I.o.size;simp at hD;omega) V rfl rfl)⟩
 case stop=>
  rintro D c bV W _ _ h _;exact h.elim
end Go.Proofs.YthamijnggdjaoaaGreat
namespace Go.Proofs.YthamijnggdjaoaaGreat
open Go.RowKit
open Tryz
def vq (c:Nat) (ys xs:N3) (q:Int) (i:Nat):Int:=cP (nth ys (i/c)) (nth xs (i%c)) q
def fG (r c:Nat) (ys xs:N3) (q:Int):N3:=bH (r*c) (vq c ys xs q)
def gI (r c:Nat) (ys xs:N3) (q:Int) (a:List Nat) (x j:Nat):N3:=bH (r*c) fun i=>if i/c∈a\/(i/c=x/\i%c<j) then vq c ys xs q i else 0
theorem iA (r c:Nat) (ys xs:N3) (q:Int) (a:List Nat) (x j:Nat):(gI r c ys xs q a x j).length=r*c:=aG _ _
theorem rt (r c:Nat) (ys xs:N3) (q:Int) (x:Nat):List.replicate (r*c) 0=gI r c ys xs q [] x 0:=
 dB (by simp) fun k a=>by
  rw [cJ _ _ (by simpa using a)];simp
theorem tx {r c:Nat} {ys xs:N3} {q:Int} {a:List Nat} {x j:Nat} (A:x<r) (v:j<c):(gI r c ys xs q a x j).set (x*c+j) (cP (nth ys x) (nth xs j) q)=gI r c ys xs q a x (j+1):=by
 have e:x*c+j<r*c:=by
  have:=yX c (show x+1<=r by omega);rw [yP] at this;omega
 have p:(x*c+j)/c=x:=by rw [Nat.add_comm,Nat.add_mul_div_right _ _ am,Nat.div_eq_of_lt v,yR]
 have m:(x*c+j)%c=j:=by rw [Nat.add_comm,Nat.add_mul_mod_self_right,Nat.mod_eq_of_lt v]
 refine fd (by rw [List.length_set,iA,iA]) fun i o=>?_;rw [List.length_set,iA] at o;rw [eh,iA];unfold gI;rw [aI _ o,aI _ o];by_cases h:i=x*c+j
 ·subst h;rw [if_pos ⟨rfl,e⟩,if_pos (.inr ⟨p,by omega⟩)];unfold vq;rw [p,m]
 ·rw [if_neg (fun g=>h g.1)];have n:¬(i/c=x/\i%c=j):=fun g=>h (by rw [<-g.1,<-g.2,Nat.mul_comm];exact (Nat.div_add_mod i c).symm);by_cases k:i/c∈a\/(i/c=x/\i%c<j)
  ·rw [if_pos k,if_pos (k.imp id fun g=>⟨g.1,by omega⟩)]
  ·rw [if_neg k,if_neg];rintro (l | ⟨l,y⟩)
   ·exact k (.inl l)
   ·exact k (.inr ⟨l,by
     rcases yl (i%c) j with u | u
     ·exact u
     ·exact absurd ⟨l,by omega⟩ n⟩)
theorem tA {r c:Nat} {ys xs:N3} {q:Int} {a:List Nat} {x:Nat} (hc:1<=c) (y:Nat):gI r c ys xs q a x c=gI r c ys xs q (a++[x]) y 0:=by
 unfold gI;refine df fun i k=>?_;have hm:i%c<c:=Nat.mod_lt _ am;by_cases e:i/c∈a\/(i/c=x/\i%c<c)
 ·rw [if_pos e,if_pos];rcases e with h | ⟨h,_⟩
  ·exact .inl (yN.2 (.inl h))
  ·exact .inl (yN.2 (.inr (by simp [h])))
 ·rw [if_neg e,if_neg];rintro (g | ⟨_,j⟩)
  ·rcases yN.1 g with h | h
   ·exact e (.inl h)
   ·exact e (.inr ⟨by simpa using h,hm⟩)
  ·omega
theorem oT {r c:Nat} {ys xs:N3} {q:Int} {a:List Nat} (x y:Nat):gI r c ys xs q a x 0=gI r c ys xs q a y 0:=by
 unfold gI;exact df fun i e=>by simp
theorem rv {r c:Nat} {ys xs:N3} {q:Int} (hc:1<=c) (y:Nat):gI r c ys xs q (List.range r) y 0=fG r c ys xs q:=by
 unfold gI fG;refine df fun i a=>?_;rw [if_pos];refine .inl (List.mem_range.2 ?_);exact (Nat.div_lt_iff_lt_mul am).2 a
end Go.Proofs.YthamijnggdjaoaaGreat
