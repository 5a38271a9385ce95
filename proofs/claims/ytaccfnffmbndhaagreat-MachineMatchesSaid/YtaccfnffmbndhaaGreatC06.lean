/- No condition. -/
import Derived.Test.YtaccfnffmbndhaaGreatC00
import Derived.Test.YtaccfnffmbndhaaGreatC05
import Derived.Test.YtaccfnffmbndhaaGreatC02
import Derived.Test.YtaccfnffmbndhaaGreatC01
import Derived.WalkSpells
import Derived.Deep.RegionHeld3
import Derived.StillTailTactics
import Derived.Test.YtaccfnffmbndhaaGreatC03
set_option linter.unusedSimpArgs false
set_option linter.unusedVariables false
set_option maxRecDepth 100000
set_option maxHeartbeats 4000000
namespace Go.Proofs.YtaccfnffmbndhaaGreat
open Go.RowKit
theorem sC (a g:Int) (w:World):Calls Tryz.prog 185 #[KL a,KL g] w fun e i=>e=.returned (KL (if 0<a then g else 0))∧w=i:=by
 by_cases h:0<a
 ·rw [if_pos h]
  go_enter Tryz.func185,Tryz.ntmps185
  go_wp2
  go_ret
  exact ⟨rfl,rfl⟩
 ·rw [if_neg h]
  go_enter Tryz.func185,Tryz.ntmps185
  go_wp2
  go_ret
  exact ⟨rfl,rfl⟩
def pb (b:Int) (k:Nat):Int:=if k≤63 then uw b%2^k else b
def rHi (a b:Int) (k:Nat):Int:=uw (a*pb b k/18446744073709551616)
def rLo (a b:Int) (k:Nat):Int:=uw (a*pb b k)
theorem CU (N X:Int):uw (uw N+uw X)=uw (N+X):=by unfold uw;omega
theorem FJ (N X:Int) (h:¬uw (uw N+uw X)<uw N):uw (uw (N/18446744073709551616)+uw (X/18446744073709551616))=uw ((N+X)/18446744073709551616):=by unfold uw at *;omega
theorem FI (N X:Int) (h:uw (uw N+uw X)<uw N):uw (uw (uw (N/18446744073709551616)+1)+uw (X/18446744073709551616))=uw ((N+X)/18446744073709551616):=by unfold uw at *;omega
theorem sW (X:Int):uw (18446744073709551615-uw X+1)=uw (-X):=by unfold uw;omega
theorem vN (X:Int) (h:¬uw (-X)=0):18446744073709551615-uw (X/18446744073709551616)=uw (-X/18446744073709551616):=by unfold uw at *;omega
theorem vL (X:Int) (h:uw (-X)=0):uw (18446744073709551615-uw (X/18446744073709551616)+1)=uw (-X/18446744073709551616):=by unfold uw at *;omega
theorem iv (x:Int):IntKind.u64.wrap x=uw x:=by rw [IntKind.wrap_u64];rfl
theorem Ib (x:Int) (h:0≤x∧x<18446744073709551616):bits .and .u64 x 1=x%2:=by
 obtain ⟨n,rfl⟩:=Int.eq_ofNat_of_zero_le h.1
 have h1:=bits_and_u64_nat n 1 (by omega) (by omega)
 have e:n&&& 1=n%2:=Nat.and_one_is_mod n
 rw [e] at h1
 simpa using h1
theorem pX (x:Int) (h:0≤x∧x<18446744073709551616):bits .xor .u64 (if IntKind.u64.signed=true then -1 else IntKind.u64.max) x=18446744073709551615-x:=by
 obtain ⟨n,rfl⟩:=Int.eq_ofNat_of_zero_le h.1
 have hn:n<18446744073709551616:=by omega
 have h1:bits .xor .u64 (if IntKind.u64.signed=true then -1 else IntKind.u64.max) (n:Int)=IntKind.u64.wrap ((BitVec.ofInt 64 18446744073709551615^^^BitVec.ofInt 64 (n:Int)).toNat:Int):=rfl
 have i:BitVec.ofInt 64 18446744073709551615=BitVec.allOnes 64:=by decide
 have j:(BitVec.ofInt 64 (n:Int)).toNat=n:=by rw [BitVec.ofInt_natCast,BitVec.toNat_ofNat];exact Nat.mod_eq_of_lt (by omega)
 rw [h1,i,BitVec.allOnes_xor,BitVec.toNat_not,j,iv]
 unfold uw
 omega
theorem Eb (m k:Nat) (y:Nat) (j:y<2^k) (hx:2^k*m<18446744073709551616) (o:k≤64):bits .or .u64 ((2^k*m:Nat):Int) (y:Int)=((2^k*m:Nat):Int)+(y:Int):=by
 have i:y<18446744073709551616:=JK j (by have:=Nat.pow_le_pow_right (n:=2) (by decide) o;simpa using this)
 rw [bits_or_u64_nat _ _ hx i,←Nat.two_pow_add_eq_or_of_lt j]
 simp
theorem Br (k:Nat) (i:k≤64):(18446744073709551616:Int)=2^(64-k)*2^k:=by rw [←Int.pow_add,show 64-k+k=64 by omega];rfl
theorem yq (k:Nat) (i:k≤64):(18446744073709551616:Nat)=2^(64-k)*2^k:=by rw [←Nat.pow_add,show 64-k+k=64 by omega]
theorem Ik (a:Int) (k:Nat):IntKind.u64.wrap (IntKind.u64.wrap a*2^k)=uw (a*2^k):=by
 rw [iv,iv]
 unfold uw
 rw [Int.mul_emod,Int.emod_emod_of_dvd _ (Int.dvd_refl _),←Int.mul_emod]
theorem zw (a:Int) (k:Nat) (H:0<k) (D:k≤63) (Q: -9223372036854775808≤a∧a≤9223372036854775807) (S:Int) (J:(S=18446744073709551615∧a<0)∨(S=0∧0≤a)):
  bits .or .u64 (IntKind.u64.wrap (S*2^k)) (IntKind.u64.wrap a/2^(64-k))=uw (a*2^k/18446744073709551616):=by
 obtain ⟨U,o,I⟩:=ot a
 have u:=Br k (by omega)
 have i:=yq k (by omega)
 have C:(0:Int)<2^(64-k):=Int.pow_pos (by decide)
 have j:(0:Int)<2^k:=Int.pow_pos (by decide)
 have y:a*2^k/18446744073709551616=a/2^(64-k):=by
  rw [u];exact Int.mul_ediv_mul_of_pos_left _ _ j
 have B:U/2^(64-k)<2^k:=by
  rw [Nat.div_lt_iff_lt_mul (Nat.pow_pos (by decide)),Nat.mul_comm];omega
 have x:IntKind.u64.wrap a/2^(64-k)=((U/2^(64-k):Nat):Int):=by rw [iv,o];simp
 have L:2^k≤9223372036854775808:=by have:=Nat.pow_le_pow_right (n:=2) (by decide) D;simpa using this
 have A:0<2^k:=Nat.pow_pos (by decide)
 rw [y,x]
 rcases J with ⟨rfl,h⟩ | ⟨rfl,h⟩
 ·have hw:IntKind.u64.wrap (18446744073709551615*2^k)=((2^k*(2^(64-k)-1):Nat):Int):=by
   have h1:((2^k*(2^(64-k)-1):Nat):Int)=18446744073709551616-2^k:=by
    have O:2^k*(2^(64-k)-1)+2^k=18446744073709551616:=by
     rw [←Nat.mul_succ,Nat.succ_eq_add_one,Nat.sub_add_cancel (Nat.pow_pos (by decide)),Nat.mul_comm];exact i.symm
    have N:((2^k:Nat):Int)=2^k:=by simp
    omega
   rw [h1,iv]
   unfold uw
   have v:((2^k:Nat):Int)=2^k:=by simp
   omega
  rw [hw,Eb _ _ _ B (by rw [i,Nat.mul_comm];exact Nat.mul_lt_mul_of_pos_right (by have:0<2^(64-k):=Nat.pow_pos (by decide);omega) A) (by omega),←hw,iv]
  have p:a=(U:Int)+(-(2^k))*2^(64-k):=by
   have:(2:Int)^k*2^(64-k)=18446744073709551616:=by rw [Int.mul_comm];exact u.symm
   rw [Int.neg_mul,this]
   unfold uw at o;omega
  rw [p,Int.add_mul_ediv_right _ _ (by omega)]
  have q:((U/2^(64-k):Nat):Int)=(U:Int)/2^(64-k):=by simp
  rw [←q]
  have v:(2:Int)^k=((2^k:Nat):Int):=by simp
  rw [v]
  generalize U/2^(64-k)=Y at *
  generalize 2^k=P at *
  clear y x hw p q u i C j v o
  unfold uw
  omega
 ·have hw:IntKind.u64.wrap (0*2^k)=((2^k*0:Nat):Int):=by rw [Int.zero_mul];rfl
  rw [hw,Eb _ _ _ B (by simp) (by omega)]
  have p:a=(U:Int):=by unfold uw at o;omega
  rw [p]
  have q:((U/2^(64-k):Nat):Int)=(U:Int)/2^(64-k):=by simp
  rw [←q]
  generalize U/2^(64-k)=Y at *
  generalize 2^k=P at *
  clear y x hw p q u i C j o
  unfold uw
  omega
theorem Du (a:Int) (k:Nat) (j:k≤0) (i: -9223372036854775808≤a∧a≤9223372036854775807) (S:Int) (o:(S=18446744073709551615∧a<0)∨(S=0∧0≤a)):S=uw (a*2^k/18446744073709551616):=by
 obtain rfl:k=0:=by omega
 unfold uw;rw [Int.pow_zero,Int.mul_one];omega
theorem FC (b:Int) (k:Nat) (p:k<64):bits .and .u64 (IntKind.u64.wrap b/2^k) 1=uw b/2^k%2:=by
 rw [iv]
 obtain ⟨V,o,j⟩:=ot b
 rw [o]
 have i:(V:Int)/2^k=((V/2^k:Nat):Int):=by simp
 rw [i]
 have q:=Nat.div_le_self V (2^k)
 generalize V/2^k=Z at *
 exact Ib _ ⟨by omega,by omega⟩
theorem lW (b:Int) (k:Nat) (j:k<63):pb b (k+1)=pb b k+(uw b/2^k%2)*2^k:=by
 unfold pb
 rw [if_pos (by omega),if_pos (by omega)]
 obtain ⟨V,i,_⟩:=ot b
 rw [i]
 have h:=Nat.mod_pow_succ (b:=2) (x:=V) (k:=k)
 have h1:((V%2^(k+1):Nat):Int)=(V:Int)%2^(k+1):=by simp
 rw [←h1,h]
 simp [Int.mul_comm]
theorem pY (b:Int) (i: -9223372036854775808≤b∧b≤9223372036854775807):pb b 64=pb b 63-(uw b/2^63%2)*2^63:=by
 unfold pb
 rw [if_neg (by omega),if_pos (by omega)]
 unfold uw
 omega
theorem I8 (b:Int):pb b 0=0:=by unfold pb;rw [if_pos (by omega),Int.pow_zero];omega
theorem zP (b:Int):pb b 64=b:=by unfold pb;rw [if_neg (by omega)]
theorem DY {a b:Int} {k:Nat} (h:pb b (k+1)=pb b k):rHi a b k=rHi a b (k+1)∧rLo a b k=rLo a b (k+1):=by unfold rHi rLo;rw [h];exact ⟨rfl,rfl⟩
theorem sG {a b X:Int} {k:Nat} (h:a*pb b (k+1)=a*pb b k+X) (j i:Int) (hL:j=uw X) (hH:i=uw (X/18446744073709551616)):
  IntKind.u64.wrap (rLo a b k+j)=rLo a b (k+1)∧(rLo a b (k+1)<rLo a b k→IntKind.u64.wrap (IntKind.u64.wrap (rHi a b k+1)+i)=rHi a b (k+1))∧(¬rLo a b (k+1)<rLo a b k→IntKind.u64.wrap (rHi a b k+i)=rHi a b (k+1)):=by
 subst hL;subst hH
 simp only [iv]
 unfold rHi rLo
 rw [h]
 have e:=CU (a*pb b k) X
 refine ⟨e,fun hc=>?_,fun hc=>?_⟩
 ·exact FI _ _ (by rw [e];exact hc)
 ·exact FJ _ _ (by rw [e];exact hc)
theorem AV (a b:Int) (w:World) (D: -9223372036854775808≤a∧a≤9223372036854775807) (H: -9223372036854775808≤b∧b≤9223372036854775807):
  Calls Tryz.prog 162 #[KL a,KL b] w fun e w'=>e=.returned (.tuple #[KL (ed a b),.int .u64 (fY a b)])∧w=w':=by
 by_cases hs:a<0
 ·have A:rHi a b 0=0∧rLo a b 0=0:=by unfold rHi rLo;rw [I8,Int.mul_zero];exact ⟨rfl,rfl⟩
  have C:=aa A;clear A
  go_enter Tryz.func162,Tryz.ntmps162
  go_wp2_with fail
  go_loop [6,7,9] (fun h l i=>∃k:Nat,k≤64∧i=KL k∧h=.int .u64 (rHi a b k)∧l=.int .u64 (rLo a b k)) (fun _ _ i=>64-(intOf i).toNat)
  case atStart=>exact ⟨0,by omega,rfl,by rw [C.out.1],by rw [C.out.2]⟩
  case round=>
   obtain ⟨k,hk,rfl,rfl,rfl⟩:=hrel
   have u:=aa hs;clear hs
   by_cases I:k<64
   ·have j:=FC b k I
    obtain ⟨t,q⟩:∃t,uw b/2^k%2=t:=⟨_,rfl⟩
    have L:t=0∨t=1:=by omega
    rw [q] at j
    rcases L with T | h1
    ·subst T
     have y:pb b (k+1)=pb b k:=by
      rcases JR k 63 with h | h
      ·rw [lW b k h,q];omega
      ·obtain rfl:k=63:=by omega
       rw [pY b H,q];omega
     have a0:(bits .and .u64 (IntKind.u64.wrap b/2^k) 1==0)=true:=by rw [j];rfl
     have hr:=DY (a:=a) y
     have N:=aa hr;clear hr y q j
     go_wp2_with fail
     go_round
     case rel=>exact ⟨k+1,by omega,by go_num,by rw [N.out.1],by rw [N.out.2]⟩
     case measure=>simp [intOf];omega
    ·subst h1
     have a1:(bits .and .u64 (IntKind.u64.wrap b/2^k) 1==0)=false:=by rw [j];rfl
     have e1:=Ik a k
     rcases (show k≤0∨(0<k∧k<63)∨63≤k by omega) with h | ⟨h,V⟩ | h
     ·have hr:=sG (a:=a) (b:=b) (k:=k) (X:=a*2^k) (by rw [lW b k (by omega),q,Int.mul_add,Int.one_mul]) (uw (a*2^k)) (18446744073709551615) rfl (Du a k h D _ (.inl ⟨rfl,u.out⟩))
      have B:((k:Int)==63)=false:=by simp;omega
      clear q j
      obtain ⟨J,o,p⟩:=hr
      by_cases hc:rLo a b (k+1)<rLo a b k
      ·have v:=o hc
       clear o p
       go_wp2_with fail
       go_round
       case rel=>exact ⟨k+1,by omega,by go_num,rfl,rfl⟩
       case measure=>simp [intOf];omega
      ·have v:=p hc
       clear o p
       go_wp2_with fail
       go_round
       case rel=>exact ⟨k+1,by omega,by go_num,rfl,rfl⟩
       case measure=>simp [intOf];omega
     ·have O:=zw a k h (by omega) D (18446744073709551615) (.inl ⟨rfl,u.out⟩)
      have hr:=sG (a:=a) (b:=b) (k:=k) (X:=a*2^k) (by rw [lW b k V,q,Int.mul_add,Int.one_mul]) (uw (a*2^k)) (uw (a*2^k/18446744073709551616)) rfl rfl
      have B:((k:Int)==63)=false:=by simp;omega
      clear q j
      obtain ⟨J,o,p⟩:=hr
      by_cases hc:rLo a b (k+1)<rLo a b k
      ·have v:=o hc
       clear o p
       go_wp2_with fail
       go_round
       case rel=>exact ⟨k+1,by omega,by go_num,rfl,rfl⟩
       case measure=>simp [intOf];omega
      ·have v:=p hc
       clear o p
       go_wp2_with fail
       go_round
       case rel=>exact ⟨k+1,by omega,by go_num,rfl,rfl⟩
       case measure=>simp [intOf];omega
     ·have O:=zw a k (by omega) (by omega) D (18446744073709551615) (.inl ⟨rfl,u.out⟩)
      have e3:=pX (uw (a*2^k)) (pC _)
      have e4:=pX (uw (a*2^k/18446744073709551616)) (pC _)
      have e5:IntKind.u64.wrap (18446744073709551615-uw (a*2^k)+1)=uw (-(a*2^k)):=by rw [iv];exact sW _
      have B:((k:Int)==63)=true:=by simp;omega
      have hr:=sG (a:=a) (b:=b) (k:=k) (X:= -(a*2^k)) (by obtain rfl:k=63:=(by omega);rw [pY b H,q,Int.mul_sub,Int.one_mul];omega) (uw (-(a*2^k))) (uw (-(a*2^k)/18446744073709551616)) rfl rfl
      clear q j
      by_cases x:uw (-(a*2^k))=0
      ·have Y:IntKind.u64.wrap (18446744073709551615-uw (a*2^k/18446744073709551616)+1)=uw (-(a*2^k)/18446744073709551616):=by rw [iv];exact vL _ x
       have R:(uw (-(a*2^k))==0)=true:=by rw [x];rfl
       clear x
       obtain ⟨J,o,p⟩:=hr
       by_cases hc:rLo a b (k+1)<rLo a b k
       ·have v:=o hc
        clear o p
        go_wp2_with fail
        go_round
        case rel=>exact ⟨k+1,by omega,by go_num,rfl,rfl⟩
        case measure=>simp [intOf];omega
       ·have v:=p hc
        clear o p
        go_wp2_with fail
        go_round
        case rel=>exact ⟨k+1,by omega,by go_num,rfl,rfl⟩
        case measure=>simp [intOf];omega
      ·have Y:18446744073709551615-uw (a*2^k/18446744073709551616)=uw (-(a*2^k)/18446744073709551616):=vN _ x
       have R:(uw (-(a*2^k))==0)=false:=by simpa using x
       clear x
       obtain ⟨J,o,p⟩:=hr
       by_cases hc:rLo a b (k+1)<rLo a b k
       ·have v:=o hc
        clear o p
        go_wp2_with fail
        go_round
        case rel=>exact ⟨k+1,by omega,by go_num,rfl,rfl⟩
        case measure=>simp [intOf];omega
       ·have v:=p hc
        clear o p
        go_wp2_with fail
        go_round
        case rel=>exact ⟨k+1,by omega,by go_num,rfl,rfl⟩
        case measure=>simp [intOf];omega
   ·obtain rfl:k=64:=by omega
    have Q:wrap64 (rHi a b 64)=ed a b:=by
     unfold rHi;rw [zP,oh];exact lI (iM D H).1 (iM D H).2
    have hl:rLo a b 64=fY a b:=by unfold rLo fY;rw [zP]
    obtain ⟨U,Z⟩:=ae Q hl;clear Q hl
    rw [show (((64:Nat):Int))=64 from rfl]
    go_wp2_with fail
    go_ret2
    exact ⟨by rw [U.out,Z.out];rfl,rfl⟩
 ·have A:rHi a b 0=0∧rLo a b 0=0:=by unfold rHi rLo;rw [I8,Int.mul_zero];exact ⟨rfl,rfl⟩
  have C:=aa A;clear A
  go_enter Tryz.func162,Tryz.ntmps162
  go_wp2_with fail
  go_loop [6,7,9] (fun h l i=>∃k:Nat,k≤64∧i=KL k∧h=.int .u64 (rHi a b k)∧l=.int .u64 (rLo a b k)) (fun _ _ i=>64-(intOf i).toNat)
  case atStart=>exact ⟨0,by omega,rfl,by rw [C.out.1],by rw [C.out.2]⟩
  case round=>
   obtain ⟨k,hk,rfl,rfl,rfl⟩:=hrel
   have u:=aa hs;clear hs
   by_cases I:k<64
   ·have j:=FC b k I
    obtain ⟨t,q⟩:∃t,uw b/2^k%2=t:=⟨_,rfl⟩
    have L:t=0∨t=1:=by omega
    rw [q] at j
    rcases L with T | h1
    ·subst T
     have y:pb b (k+1)=pb b k:=by
      rcases JR k 63 with h | h
      ·rw [lW b k h,q];omega
      ·obtain rfl:k=63:=by omega
       rw [pY b H,q];omega
     have a0:(bits .and .u64 (IntKind.u64.wrap b/2^k) 1==0)=true:=by rw [j];rfl
     have hr:=DY (a:=a) y
     have N:=aa hr;clear hr y q j
     go_wp2_with fail
     go_round
     case rel=>exact ⟨k+1,by omega,by go_num,by rw [N.out.1],by rw [N.out.2]⟩
     case measure=>simp [intOf];omega
    ·subst h1
     have a1:(bits .and .u64 (IntKind.u64.wrap b/2^k) 1==0)=false:=by rw [j];rfl
     have e1:=Ik a k
     rcases (show k≤0∨(0<k∧k<63)∨63≤k by omega) with h | ⟨h,V⟩ | h
     ·have hr:=sG (a:=a) (b:=b) (k:=k) (X:=a*2^k) (by rw [lW b k (by omega),q,Int.mul_add,Int.one_mul]) (uw (a*2^k)) (0) rfl (Du a k h D _ (.inr ⟨rfl,by have:=u.out;omega⟩))
      simp only [Int.add_zero] at hr
      have B:((k:Int)==63)=false:=by simp;omega
      clear q j
      obtain ⟨J,o,p⟩:=hr
      by_cases hc:rLo a b (k+1)<rLo a b k
      ·have v:=o hc
       clear o p
       go_wp2_with fail
       go_round
       case rel=>exact ⟨k+1,by omega,by go_num,rfl,rfl⟩
       case measure=>simp [intOf];omega
      ·have v:=p hc
       clear o p
       go_wp2_with fail
       go_round
       case rel=>exact ⟨k+1,by omega,by go_num,rfl,rfl⟩
       case measure=>simp [intOf];omega
     ·have O:=zw a k h (by omega) D (0) (.inr ⟨rfl,by have:=u.out;omega⟩)
      rw [Int.zero_mul,show IntKind.u64.wrap 0=0 from rfl] at O
      have hr:=sG (a:=a) (b:=b) (k:=k) (X:=a*2^k) (by rw [lW b k V,q,Int.mul_add,Int.one_mul]) (uw (a*2^k)) (uw (a*2^k/18446744073709551616)) rfl rfl
      have B:((k:Int)==63)=false:=by simp;omega
      clear q j
      obtain ⟨J,o,p⟩:=hr
      by_cases hc:rLo a b (k+1)<rLo a b k
      ·have v:=o hc
       clear o p
       go_wp2_with fail
       go_round
       case rel=>exact ⟨k+1,by omega,by go_num,rfl,rfl⟩
       case measure=>simp [intOf];omega
      ·have v:=p hc
       clear o p
       go_wp2_with fail
       go_round
       case rel=>exact ⟨k+1,by omega,by go_num,rfl,rfl⟩
       case measure=>simp [intOf];omega
     ·have O:=zw a k (by omega) (by omega) D (0) (.inr ⟨rfl,by have:=u.out;omega⟩)
      rw [Int.zero_mul,show IntKind.u64.wrap 0=0 from rfl] at O
      have e3:=pX (uw (a*2^k)) (pC _)
      have e4:=pX (uw (a*2^k/18446744073709551616)) (pC _)
      have e5:IntKind.u64.wrap (18446744073709551615-uw (a*2^k)+1)=uw (-(a*2^k)):=by rw [iv];exact sW _
      have B:((k:Int)==63)=true:=by simp;omega
      have hr:=sG (a:=a) (b:=b) (k:=k) (X:= -(a*2^k)) (by obtain rfl:k=63:=(by omega);rw [pY b H,q,Int.mul_sub,Int.one_mul];omega) (uw (-(a*2^k))) (uw (-(a*2^k)/18446744073709551616)) rfl rfl
      clear q j
      by_cases x:uw (-(a*2^k))=0
      ·have Y:IntKind.u64.wrap (18446744073709551615-uw (a*2^k/18446744073709551616)+1)=uw (-(a*2^k)/18446744073709551616):=by rw [iv];exact vL _ x
       have R:(uw (-(a*2^k))==0)=true:=by rw [x];rfl
       clear x
       obtain ⟨J,o,p⟩:=hr
       by_cases hc:rLo a b (k+1)<rLo a b k
       ·have v:=o hc
        clear o p
        go_wp2_with fail
        go_round
        case rel=>exact ⟨k+1,by omega,by go_num,rfl,rfl⟩
        case measure=>simp [intOf];omega
       ·have v:=p hc
        clear o p
        go_wp2_with fail
        go_round
        case rel=>exact ⟨k+1,by omega,by go_num,rfl,rfl⟩
        case measure=>simp [intOf];omega
      ·have Y:18446744073709551615-uw (a*2^k/18446744073709551616)=uw (-(a*2^k)/18446744073709551616):=vN _ x
       have R:(uw (-(a*2^k))==0)=false:=by simpa using x
       clear x
       obtain ⟨J,o,p⟩:=hr
       by_cases hc:rLo a b (k+1)<rLo a b k
       ·have v:=o hc
        clear o p
        go_wp2_with fail
        go_round
        case rel=>exact ⟨k+1,by omega,by go_num,rfl,rfl⟩
        case measure=>simp [intOf];omega
       ·have v:=p hc
        clear o p
        go_wp2_with fail
        go_round
        case rel=>exact ⟨k+1,by omega,by go_num,rfl,rfl⟩
        case measure=>simp [intOf];omega
   ·obtain rfl:k=64:=by omega
    have Q:wrap64 (rHi a b 64)=ed a b:=by
     unfold rHi;rw [zP,oh];exact lI (iM D H).1 (iM D H).2
    have hl:rLo a b 64=fY a b:=by unfold rLo fY;rw [zP]
    obtain ⟨U,Z⟩:=ae Q hl;clear Q hl
    rw [show (((64:Nat):Int))=64 from rfl]
    go_wp2_with fail
    go_ret2
    exact ⟨by rw [U.out,Z.out];rfl,rfl⟩
def sHi (N:Int) (k:Nat):Int:=N/2^k/18446744073709551616
def sLo (N:Int) (k:Nat):Int:=uw (N/2^k)
theorem ti (N:Int) (k:Nat):N/2^(k+1)=N/2^k/2:=by
 rw [Int.pow_succ,←Int.ediv_ediv_of_nonneg]
 exact Int.le_of_lt (Int.pow_pos (by decide))
theorem uY (N:Int) (k:Nat):sHi N (k+1)=sHi N k/2:=by unfold sHi;rw [ti];omega
theorem BE (x y:Int):bits .or .u64 x y=bits .or .u64 y x:=by
 show IntKind.u64.wrap ((BitVec.ofInt 64 x||| BitVec.ofInt 64 y).toNat:Int)=IntKind.u64.wrap ((BitVec.ofInt 64 y||| BitVec.ofInt 64 x).toNat:Int)
 rw [BitVec.or_comm]
theorem DA (N:Int) (k:Nat):bits .or .u64 (sLo N k/2) (IntKind.u64.wrap (IntKind.u64.wrap (sHi N k)*9223372036854775808))=sLo N (k+1):=by
 have h:=uW (sHi N k) (sLo N k) 1 (by omega) (pC _)
 rw [BE]
 simp only [Int.pow_one,show (64-1:Nat)=63 from rfl,show (2:Int)^63=9223372036854775808 from rfl] at h
 rw [h]
 unfold sLo sHi
 rw [ti]
 unfold uw
 omega
theorem Iw (N:Int) (k:Nat) (i: -170141183460469231731687303715884105728≤N∧N≤170141183460469231731687303715884105727): -9223372036854775808≤sHi N k∧sHi N k≤9223372036854775807:=by
 induction k with
 | zero=>unfold sHi;rw [Int.pow_zero];omega
 | succ k ih=>rw [uY];omega
theorem xK (N:Int) (q:Nat) (w:World) (C:q≤62) (p: -170141183460469231731687303715884105728≤N∧N≤170141183460469231731687303715884105727):
  Calls Tryz.prog 163 #[KL (N/18446744073709551616),.int .u64 (uw N),KL q] w fun e x=>e=.returned (KL (wrap64 (N/2^q)))∧w=x:=by
 have j:N/18446744073709551616=sHi N 0∧uw N=sLo N 0:=by unfold sHi sLo;rw [Int.pow_zero,Int.ediv_one];exact ⟨rfl,rfl⟩
 rw [j.1,j.2]
 have y:=aa p;clear j p
 go_enter Tryz.func163,Tryz.ntmps163
 go_wp2_with fail
 go_loop [0,1,7] (fun h l i=>∃k:Nat,k≤q∧i=KL k∧h=KL (sHi N k)∧l=.int .u64 (sLo N k)) (fun _ _ i=>q-(intOf i).toNat)
 case atStart=>exact ⟨0,JH _,rfl,rfl,rfl⟩
 case round=>
  obtain ⟨k,B,rfl,rfl,rfl⟩:=hrel
  have H:=Iw N k y.out
  by_cases v:k<q
  ·have D:=DA N k
   have o:=uY N k
   have A:=aa o;clear o
   go_wp2_with fail
   go_round
   case rel=>exact ⟨k+1,by omega,by go_num,by rw [A.out],rfl⟩
   case measure=>simp [intOf];omega
  ·obtain rfl:k=q:=by omega
   have he:wrap64 (sLo N k)=wrap64 (N/2^k):=by unfold sLo;exact oh _
   have u:=aa he;clear he
   go_wp2_with fail
   go_ret
   exact ⟨by rw [←u.out];rfl,rfl⟩
theorem qI (a b q:Int) (w:World) (o: -9223372036854775808≤a∧a≤9223372036854775807) (p: -9223372036854775808≤b∧b≤9223372036854775807):
  Calls Tryz.prog 128 #[KL a,KL b,KL q] w fun e i=>e=.returned (KL (eL a b q))∧w=i:=by
 by_cases h1:q<0
 ·have hv:eL a b q=0:=by unfold eL;rw [if_pos (.inl h1)]
  rw [hv];clear hv
  go_enter Tryz.func128,Tryz.ntmps128
  go_wp2_with fail
  go_ret
  exact ⟨rfl,rfl⟩
 ·by_cases u:62<q
  ·have hv:eL a b q=0:=by unfold eL;rw [if_pos (.inr u)]
   rw [hv];clear hv
   go_enter Tryz.func128,Tryz.ntmps128
   go_wp2_with fail
   go_ret
   exact ⟨rfl,rfl⟩
  ·obtain ⟨Q,rfl⟩:=Int.eq_ofNat_of_zero_le (show 0≤q by omega)
   have hv:eL a b Q=wrap64 (a*b/2^Q):=by unfold eL;rw [if_neg (by omega)];simp
   rw [hv]
   have hm:=Ek o p
   have j:=AV a b w o p
   have hs:=fun i=>xK (a*b) Q i (by omega) (by omega)
   obtain ⟨x,v⟩:=ae j hs;clear j hs hv hm
   go_enter Tryz.func128,Tryz.ntmps128
   go_wp2_with fail
   refine x.out.mono ?_
   rintro e y ⟨rfl,rfl⟩
   go_wp2_with fail
   refine (v.out _).mono ?_
   rintro e A ⟨rfl,rfl⟩
   go_wp2_with fail
   go_ret
   exact ⟨rfl,rfl⟩
def wL (sz ps:List Int) (k:Nat):List Int:=dh (szN sz (k+1)*szN sz k) fun i=>nth ps (aZ sz k+i)
def bL (sz ps:List Int) (k:Nat):List Int:=dh (szN sz (k+1)) fun i=>nth ps (cW sz k+i)
theorem xn (sz ps:List Int) (k:Nat):(wL sz ps k).length=szN sz (k+1)*szN sz k:=bR _ _
theorem FF (sz ps:List Int) (k:Nat):(bL sz ps k).length=szN sz (k+1):=bR _ _
def uI (w:World) (i:List Value) (sz ps:List Int) (k:Nat):Prop:=∃g o d B e,
 i=[KL (szN sz (k+1):Int),KL (szN sz k:Int),.slice (some ⟨g,o,none⟩) (szN sz (k+1)*szN sz k) d,.slice B (szN sz (k+1)) e]∧szN sz (k+1)*szN sz k≤d∧
 Rd w (some ⟨g,o,none⟩) (aq .i64 (wL sz ps k))∧Rd w B (aq .i64 (bL sz ps k))
def kT (x v:TypeId) (w:World) (b:Nat) (sz ps:List Int) (q:Int):Prop:=∃S p cp o u i,
 w.heap[b]?=some (.cells #[.pointer (some ⟨S,0,none⟩),.slice p ps.length cp,KL q,.slice o (sz.length-1) u] v (0,0))∧
 bY x w S sz∧Rd w p (aq .i64 ps)∧Rd w o (List.flatten i)∧i.length=sz.length-1∧(∀r∈i,r.length=4)∧∀j,j<sz.length-1→uI w (bq i j) sz ps j
theorem uI.below {w i:World} {j:List Value} {sz ps:List Int} {k:Nat} (h:uI w j sz ps k) (p:Below w.heap.size w i):uI i j sz ps k:=by
 obtain ⟨g,o,d,B,e,h1,q,v,u⟩:=h
 exact ⟨g,o,d,B,e,h1,q,v.below p,u.below p⟩
theorem kT.below {x u:TypeId} {w p:World} {b:Nat} {sz ps:List Int} {q:Int} (h:kT x u w b sz ps q) (o:Below w.heap.size w p):kT x u p b sz ps q:=by
 obtain ⟨S,L,cp,H,y,i,v,h1,C,J,D,I,A⟩:=h
 exact ⟨S,L,cp,H,y,i,(o.block b (JC v)).trans v,h1.below o,C.below o,J.below o,D,I,fun j B=>(A j B).below o⟩
theorem kT.lt {p j:TypeId} {w:World} {b:Nat} {sz ps:List Int} {q:Int} (h:kT p j w b sz ps q):b<w.heap.size:=by
 obtain ⟨S,v,cp,x,u,i,o,_⟩:=h
 exact JC o
theorem kD:dq Tryz.prog 64 2 (KL 0) 1 8:=⟨Tryz.underlying64,info_parts (by kernel_rfl),rfl,by decide⟩
theorem xF (A:Option Addr) (zs:List Int) (c:Nat) (w:World) (hA:Rd w A (aq .i64 zs)) (hl:zs.length≤17592186043904):
  Calls Tryz.prog 116 #[.slice A zs.length c] w fun e x=>∃v,e=.returned v∧x.ownsRow w.heap.size 2 1 v zs.length (aq .i64 zs)∧Below w.heap.size w x:=by
 have q:=fun (w:World)=>Lib.run_eql_slice_nil (P:=Tryz.prog) w 64 2 A zs.length c 0 0 Tryz.underlying64
 cases A with
 | none=>
  have B:zs=[]:=by
   cases zs with
   | nil=>rfl
   | cons z l=>obtain ⟨b,o,h,_⟩:=hA 0 _ rfl;cases h
  subst B
  clear q
  have q:=fun (w:World)=>Lib.run_eql_slice_nil (P:=Tryz.prog) w 64 2 none 0 c 0 0 Tryz.underlying64
  simp only [Option.isNone_none] at q
  rw [List.length_nil]
  go_enter Tryz.func116,Tryz.ntmps116
  go_wp2
  go_ret
  exact ⟨_,rfl,JO _ _ _ _,JG _ _⟩
 | some a=>
  go_enter Tryz.func116,Tryz.ntmps116
  go_wp2_with (at_builtin;refine dX kD _ rfl (.tmp 5) (.tmp 6) rfl w.heap.size _ 0 [] rfl (fq w 2 1) _ zs.length c (aq .i64 zs) rfl (hA.alloc _) (by rw [a9];omega) (bP _ _) (by omega) (by unfold maxLen;omega) (by simp) ?_)
  intro H D C i y _ _
  have p:=((JG _ w).alloc (JD _) (.cells #[] 2)).trans y
  obtain ⟨j,u⟩:=ae i p;clear i y p
  go_wp2
  go_ret
  exact ⟨_,rfl,j.out,u.out⟩
theorem dY (A:Option Addr) (zs:List Int) (c:Nat) (w:World) (hA:Rd w A (aq .i64 zs)) (hl:zs.length≤17592186043904):
  Calls Tryz.prog 67 #[.slice A zs.length c] w fun e q=>∃p o,e=.returned (.slice p zs.length o)∧zs.length≤o∧q.ownsRow w.heap.size 2 1 (.slice p zs.length o) zs.length (aq .i64 zs)∧Below w.heap.size w q:=by
 have h:=xF A zs c w hA hl
 go_enter Tryz.func67,Tryz.ntmps67
 go_wp2_with fail
 refine h.mono ?_
 rintro e B ⟨v,rfl,i,u⟩
 obtain ⟨p,o,rfl,hc⟩:=aw i
 clear h
 obtain ⟨j,y,x⟩:=af i u hc;clear i u hc
 go_wp2
 go_ret
 exact ⟨_,_,rfl,x.out,j.out,y.out⟩
theorem G7 (A B:Option Addr) (xs ys:List Int) (c d:Nat) (q:Int) (w:World) (hA:Rd w A (aq .i64 xs)) (hB:Rd w B (aq .i64 ys)) (hl:xs.length=ys.length) (hm:xs.length≤17592186043904) (L:W64 xs) (J:W64 ys):
  Calls Tryz.prog 227 #[.slice A xs.length c,.slice B ys.length d,KL q] w fun e x=>e=.returned (.tuple #[KL (rX xs ys q),.bool true])∧Below w.heap.size w x:=by
 obtain ⟨n,hn⟩:∃n,ys.length=n:=⟨_,rfl⟩
 have hnx:xs.length=n:=hl.trans hn
 have H:rX xs ys q=yW xs ys q n:=by unfold rX;rw [hnx]
 rw [hnx,hn,H]
 have R:n≤17592186043904:=by omega
 obtain ⟨N,I,HA,Q,U,O⟩:=ai hn hnx hA hB L J;clear hn hnx hA hB L J hl hm H
 go_enter Tryz.func227,Tryz.ntmps227
 go_wp2_with fail
 go_loopw [8,18] (fun s i wr=>∃k:Nat,k≤n∧i=KL k∧s=KL (yW xs ys q k)∧Below w.heap.size w wr) (fun _ i _=>n-(intOf i).toNat)
 case atStart=>exact ⟨0,JH _,rfl,rfl,JG _ _⟩
 case round=>
  obtain ⟨k,Z,rfl,rfl,o⟩:=hrel
  by_cases j:k<n
  ·obtain ⟨V,o1,C,p1⟩:=(HA.out.below o).num (show k<xs.length by rw [I.out];exact j)
   obtain ⟨b2,o2,y,X⟩:=(Q.out.below o).num (show k<ys.length by rw [N.out];exact j)
   subst C;subst y
   have p:=fun x=>rq (nth xs k) (nth ys k) q x (U.out k (by rw [I.out];exact j)) (O.out k (by rw [N.out];exact j))
   obtain ⟨T,v⟩:=ae p o;clear p o
   go_wp2_with fail
   refine (T.out _).mono ?_
   rintro e Y ⟨rfl,u⟩
   have D:=aa (v.out.trans (u.mono v.out.size));clear u
   go_wp2_with fail
   go_roundw
   case rel=>exact ⟨k+1,by omega,by go_num,rfl,D.out⟩
   case measure=>simp [intOf];omega
  ·obtain rfl:k=n:=by omega
   have v:=aa o;clear o
   go_wp2_with fail
   go_ret2
   exact ⟨rfl,v.out⟩
theorem cq {w:World} {base n g c:Nat} {xs:List Int} {e:TypeId} (h:w.ownsRow base e 1 (.slice (some ⟨g,0,none⟩) n c) n (aq .i64 xs)) {k:Nat} (i:k<n):w.cell? ⟨g,k,none⟩=some (KL (nth xs k)):=by
 rw [h.cellAt k (by omega)]
 have:=h.1
 rw [a9] at this
 exact li .i64 xs k (by omega)
theorem jz {w:World} {base n:Nat} {v:Value} {xs:List Int} {e:TypeId} (h:w.ownsRow base e 1 v n (aq .i64 xs)):xs.length=n:=by
 have:=h.1
 rw [a9] at this
 omega
theorem dA {w:World} {base n g c:Nat} {xs:List Int} {e:TypeId} (h:w.ownsRow base e 1 (.slice (some ⟨g,0,none⟩) n c) n (aq .i64 xs)) (k:Nat) (v:Int):
  (w.setCell ⟨g,k,none⟩ (KL v)).ownsRow base e 1 (.slice (some ⟨g,0,none⟩) n c) n (aq .i64 (xs.set k v)):=by
 have:=(h.stored k (KL v)).1
 rwa [vG] at this
theorem AQ (A:Option Addr) (xs:List Int) (c:Nat) (a q:Int) (w:World) (hA:Rd w A (aq .i64 xs)) (hm:xs.length≤17592186043904) (Z:W64 xs) (ha: -9223372036854775808≤a∧a≤9223372036854775807):
  Calls Tryz.prog 201 #[.slice A xs.length c,KL a,KL q] w fun e J=>∃O L,e=.returned (.slice O xs.length L)∧J.ownsRow w.heap.size 2 1 (.slice O xs.length L) xs.length (aq .i64 (oC xs a q))∧Below w.heap.size w J:=by
 have C:=dY A xs c w hA hm
 have x:=iR xs (fun k=>eL (nth xs k) a q)
 obtain ⟨n,hn⟩:∃n,xs.length=n:=⟨_,rfl⟩
 rw [hn] at C hm
 unfold oC
 rw [←x,hn]
 obtain ⟨Hc,WX,Hn⟩:=af C Z hn;clear C Z hA x hn
 go_enter Tryz.func201,Tryz.ntmps201
 go_wp2_with fail
 refine Hc.out.mono ?_
 rintro e w1 ⟨O,L,rfl,_,j,Y⟩
 obtain ⟨HO,HB⟩:=ae j Y;clear j Y
 go_wp2_with fail
 go_loopw [14] (fun i wr=>∃k:Nat,k≤n∧i=KL k∧wr.ownsRow w.heap.size 2 1 (.slice O n L) n (aq .i64 (jC xs k (fun k=>eL (nth xs k) a q)))∧Below w.heap.size w wr) (fun i _=>n-(intOf i).toNat)
 case atStart=>exact ⟨0,JH _,rfl,by rw [gP];exact HO.out,HB.out⟩
 case round=>
  obtain ⟨k,hk,rfl,j,N⟩:=hrel
  by_cases y:k<n
  ·obtain ⟨g,d,hv,hg,a0⟩:=j.form (by omega)
   simp only [Ku] at hv
   obtain ⟨rfl,V,rfl⟩:=hv
   clear V
   have v:k<xs.length:=by rw [Hn.out];exact y
   have p1:=cq j y
   rw [fN _ v,if_neg (by omega)] at p1
   have I:=fun J=>rq (nth xs k) a q J (WX.out k v) ha
   have H:=iQ (l:=xs) (k:=k) (fun k=>eL (nth xs k) a q) v
   obtain ⟨Hm,Q,B,R⟩:=ag I N j H;clear I N j H v
   go_wp2_with fail
   refine (Hm.out _).mono ?_
   rintro e w3 ⟨rfl,D⟩
   have o:=ap B.out D
   have X:∃u,w3.cell? ⟨g,k,none⟩=some u:=⟨_,cq o y⟩
   obtain ⟨u3,X⟩:=X
   have f3:=o.frozenAt k
   obtain ⟨U,T⟩:=ae (dA o k (eL (nth xs k) a q)) ((Q.out.trans (D.mono Q.out.size)).setCell (p:=⟨g,k,none⟩) hg (KL (eL (nth xs k) a q)));clear D o
   go_wp2_with fail
   go_roundw
   case rel=>exact ⟨k+1,by omega,by go_num,by rw [←R.out];exact U.out,T.out⟩
   case measure=>simp [intOf];omega
  ·obtain rfl:k=n:=by omega
   obtain ⟨Q,B⟩:=ae N j;clear N j
   go_wp2_with fail
   go_ret
   exact ⟨_,_,rfl,B.out,Q.out⟩
theorem uF (base:Nat) (A B:Option Addr) (xs ys:List Int) (n c d:Nat) (w:World) (j:w.ownsRow base 2 1 (.slice A n c) n (aq .i64 xs)) (hB:Rd w B (aq .i64 ys)) (hl:ys.length=n) (hm:n≤17592186043904)
  (x:∀a b,A=some a→B=some b→a.block≠b.block):
  Calls Tryz.prog 149 #[.slice A n c,.slice B n d] w fun e L=>e=.returned (.bool true)∧L.ownsRow base 2 1 (.slice A n c) n (aq .i64 (eI xs ys))∧Keep (fun i=>(Value.slice A n c).ownBlock=some i) w L:=by
 have p:=jz j
 have o:=iR xs (fun k=>wrap64 (nth xs k+nth ys k))
 unfold eI
 rw [←o,p]
 obtain ⟨V,Q,Y,R,X⟩:=ah j hB p hl x;clear j hB p hl o x
 go_enter Tryz.func149,Tryz.ntmps149
 go_wp2_with fail
 go_loopw [13] (fun i wr=>∃k:Nat,k≤n∧i=KL k∧wr.ownsRow base 2 1 (.slice A n c) n (aq .i64 (jC xs k (fun k=>wrap64 (nth xs k+nth ys k))))∧Keep (fun i=>(Value.slice A n c).ownBlock=some i) w wr) (fun i _=>n-(intOf i).toNat)
 case atStart=>exact ⟨0,JH _,rfl,by rw [gP];exact V.out,Keep.refl _ _⟩
 case round=>
  obtain ⟨k,hk,rfl,j,C⟩:=hrel
  by_cases q:k<n
  ·obtain ⟨g,e,hv,hg,Z⟩:=j.form (by omega)
   simp only [Ku] at hv
   obtain ⟨rfl,H,rfl⟩:=hv
   clear H
   have v:k<xs.length:=by rw [Y.out];exact q
   have U:=cq j q
   rw [fN _ v,if_neg (by omega)] at U
   have f1:=j.frozenAt k
   obtain ⟨N,T,rfl,O⟩:=Q.out.num (show k<ys.length by rw [R.out];exact q)
   have J:g≠N:=X.out _ _ rfl rfl
   have p2:wr.cell? ⟨N,T+k,none⟩=some (KL (nth ys k)):=C.cell O (by simp [Value.ownBlock];exact J)
   have y:=iQ (l:=xs) (k:=k) (fun k=>wrap64 (nth xs k+nth ys k)) v
   obtain ⟨I,u,D⟩:=af C j y;clear C j y v O
   go_wp2_with fail
   go_region
   all_goals go_wp2_with fail
   all_goals
    go_roundw
    case rel=>
     refine ⟨k+1,by omega,by go_num,?_,?_⟩
     ·rw [←D.out];exact dA (bC u.out 1) k _
     ·exact Keep.setCell (I.out.drewN 1) ⟨g,k,none⟩ (.inr rfl) _
    case measure=>simp [intOf];omega
  ·obtain rfl:k=n:=by omega
   obtain ⟨I,u⟩:=ae C j;clear C j
   go_wp2_with fail
   go_ret
   exact ⟨rfl,u.out,I.out⟩
theorem sw (r c:Int) (w:World) (hr:1≤r∧r≤1048576) (hc:1≤c∧c≤1048576):Calls Tryz.prog 211 #[KL r,KL c] w fun e i=>e=.returned (.bool true)∧w=i:=by
 obtain ⟨h1,j⟩:=hr
 obtain ⟨p,o⟩:=hc
 go_enter Tryz.func211,Tryz.ntmps211
 go_wp2
 go_ret
 exact ⟨cP (by simp [*]),rfl⟩
theorem lO (r c:Nat) (A:Option Addr) (n d:Nat) (w:World) (hr:1≤r∧r≤1048576) (hc:1≤c∧c≤1048576) (hn:n=r*c) (hm:n≤17592186043904):
  Calls Tryz.prog 193 #[.agg #[KL r,KL c,.slice A n d]] w fun e j=>e=.returned (.bool true)∧j=w.alloc (.cells #[KL r,KL c,.slice A n d] 282):=by
 have hs:=fun j=>sw r c j (by omega) (by omega)
 have i:(r:Int)*(c:Int)=(n:Int):=by rw [hn];simp
 have p:0≤(r:Int)*(c:Int)∧(r:Int)*(c:Int)≤17592186043904:=by omega
 have v:((n:Int)==IntKind.i64.wrap ((r:Int)*(c:Int)))=true:=by rw [JI _ (by omega),i];simp
 have q:((n:Int)==(r:Int)*(c:Int))=true:=by rw [i];simp
 have o:=aa hs;clear hs i hn
 go_enter Tryz.func193,Tryz.ntmps193
 go_wp2_with fail
 refine (o.out _).mono ?_
 rintro e u ⟨rfl,rfl⟩
 go_wp2_with fail
 all_goals
  go_ret
  exact ⟨cP (by first | rfl | simp [*]),rfl⟩
theorem IE (r c:Nat) (A:Option Addr) (zs:List Int) (d:Nat) (w:World) (hr:1≤r∧r≤1048576) (hc:1≤c∧c≤1048576) (hn:zs.length=r*c) (hm:zs.length≤17592186043904) (hA:Rd w A (aq .i64 zs)):
  Calls Tryz.prog 172 #[KL r,KL c,.slice A zs.length d] w fun e q=>∃u p,e=.returned (.tuple #[.agg #[KL r,KL c,.slice u zs.length p],.bool true])∧zs.length≤p∧q.ownsRow w.heap.size 2 1 (.slice u zs.length p) zs.length (aq .i64 zs)∧Below w.heap.size w q:=by
 have x:=fun q (k:Below w.heap.size w q)=>dY A zs d q (hA.below k) hm
 obtain ⟨n,C⟩:∃n,zs.length=n:=⟨_,rfl⟩
 rw [C] at x hn hm ⊢
 have B:=fun u p q=>lO r c u n p q hr hc hn hm
 obtain ⟨O,R⟩:=ae x B;clear x B C hA hn
 go_enter Tryz.func172,Tryz.ntmps172
 go_wp2_with fail
 refine (O.out _ ?_).mono ?_
 ·exact al
 rintro e J ⟨u,p,rfl,I,j,D⟩
 have o:=(D.block w.heap.size (by simp)).trans (JE w _)
 obtain ⟨⟨Q,L,U⟩,Y⟩:=bx3 o
 have H:w.heap.size<J.heap.size:=JC o
 obtain ⟨Z,V,T,y⟩:=ag (ax j (base':=w.heap.size) (by simp)) I (Below.trans ((JG _ w).alloc (JD _) _) (D.mono (by simp))) j;clear j I D o
 go_wp2_with fail
 refine (R.out _ _ _).mono ?_
 rintro e w2 ⟨rfl,rfl⟩
 go_wp2_with fail
 refine JQ (v:=.tuple #[.agg #[KL r,KL c,.slice u n p],.bool true]) (by simp [results,Tryz.results172,go_sem,Q,L,U,H]) rfl ⟨u,p,rfl,V.out,?_,?_⟩
 ·refine ax (Keep.own (S:=fun i=>i=w.heap.size) (w:=J) ?_ y.out (fun k N e=>by have:=(y.out.lt k N).1;simp at this;omega)) (by simp)
  (focus (repeat' (first | (with_reducible exact Keep.refl _ _) | (with_reducible assumption) | (with_reducible refine Keep.setCell ?_ _ ?_ _) | (with_reducible refine Keep.alloc ?_ _) | (with_reducible refine Keep.drewN ?_ _) | (with_reducible refine Keep.drew ?_) | (with_reducible exact Or.inr (ii _ _)) | (with_reducible exact Or.inr (ig _ _)) | (refine Or.inr ?_;first | rfl | (simp;done) | omega) | (refine Or.inl ?_;first | omega | (simp;done) | (simp;omega)))))
 ·have X:=T.out
  exact al
theorem Ge (r c k:Nat) (g o n d:Nat) (w:World) (hr:r≤1048576) (hc:1≤c∧c≤1048576) (A:k<r) (hn:n=r*c) (y:n≤d):
  Calls Tryz.prog 218 #[.agg #[KL r,KL c,.slice (some ⟨g,o,none⟩) n d],KL k] w fun e q=>e=.returned (.slice (some ⟨g,o+k*c,none⟩) c c)∧Below w.heap.size w q:=by
 have h1:k*c+c≤n:=by rw [hn];have:=KH c (show k+1≤r by omega);rw [Kx] at this;exact this
 have u:k*c≤1048576*1048576:=Nat.mul_le_mul (by omega) (by omega)
 have j:(k:Int)*(c:Int)=((k*c:Nat):Int):=(Int.natCast_mul k c).symm
 have x:((k:Int)+1)*(c:Int)=((k*c+c:Nat):Int):=by rw [Int.add_mul,j];simp
 obtain ⟨p,i⟩:∃p,k*c=p:=⟨_,rfl⟩
 rw [i] at h1 u j x ⊢
 clear i hn
 go_enter Tryz.func218,Tryz.ntmps218
 go_wp2_with fail
 go_quiet (fail)
 have v:¬(p+c=p):=by omega
 go_wp2
 rw [show p+c-p=c by omega]
 go_ret
 refine ⟨rfl,?_⟩
 exact al
theorem qC (i:Array Value) (w:World):Calls Tryz.prog 199 #[.agg i] w fun e j=>e=.returned (.func (.func 217) #[] #[.pointer (some ⟨w.heap.size,0,none⟩)])∧j=w.alloc (.cells i 282):=by
 go_enter Tryz.func199,Tryz.ntmps199
 go_wp2
 go_ret
 exact ⟨rfl,rfl⟩
end Go.Proofs.YtaccfnffmbndhaaGreat
namespace Go.Proofs.YtaccfnffmbndhaaGreat
open Go.RowKit Go.Shelf
attribute [local go_sem] Oper.semAt_some
def oH (g o c:Nat) {r:Nat} (k:Fin r):Array Value:=#[KL (k.1:Int),.slice (some ⟨g,o+k.1*c,none⟩) c c]
def iu (n₀ i:Nat) (W j:World):Prop:=Below n₀ W j∧(i<W.heap.size→j.heap[i]?=W.heap[i]?)
theorem Ae {r k:Nat} (h:k<r):(List.finRange r).take (k+1)=(List.finRange r).take k++[⟨k,h⟩]:=by
 rw [List.take_add_one]
 simp [h]
theorem DJ (n l Bm n₀ g o r c T d:Nat) (hr:r≤1048576) (hc:1≤c∧c≤1048576) (Z:T=r*c) (hd:T≤d) (J Jx:List (Fin r)→World→Prop) (B:Nat) (hJ:AbidesFrom B J)
  (hY:∀j x W,J j W→j.length<r→YieldAt Fence.wide (n-1) Tryz.prog l (oH g o c x) W fun e L=>
   (e=.returned (.bool true)∧J (j++[x]) L∧iu n₀ Bm W L)∨(e=.returned (.bool false)∧Jx (j++[x]) L))
  (W:World) (H:W.heap[Bm]?=some (.cells #[KL r,KL c,.slice (some ⟨g,o,none⟩) T d] 282 (0,0))) (h0:J [] W):
  CallsIn Fence.wide n Tryz.prog 217 #[.func (.yield l) #[] #[],.pointer (some ⟨Bm,0,none⟩)] W fun e L=>(∃v,e=.returned v)∧
   ((∃ys,ys=List.finRange r∧J ys L)∨(∃j,True∧Jx j L)):=by
 obtain ⟨⟨e0,e1,e2⟩,ef⟩:=bx3 H
 obtain ⟨a4,a1⟩:=ae H Z;clear H Z
 refine callsIn_of_wp Tryz.func217 rfl trivial ?_ rfl
 simp only [Tryz.ntmps217,List.size_toArray,List.length_cons,List.length_nil,Nat.reduceAdd,Nat.reduceSub,Array.replicate_succ,Array.replicate_zero,List.push_toArray,List.append_toArray,List.nil_append,List.cons_append]
 gi_wp2
 gi_loopw [6] (fun i wr=>∃k:Nat,k≤r∧i=KL k∧J ((List.finRange r).take k) wr∧wr.heap[Bm]?=some (.cells #[KL r,KL c,.slice (some ⟨g,o,none⟩) T d] 282 (0,0)))
  (fun i _=>r-(intOf i).toNat)
 case atStart=>exact ⟨0,JH _,rfl,h0,a4.out⟩
 case round=>
  obtain ⟨k,hk,rfl,p,C⟩:=hrel
  clear e0 e1 e2 ef
  by_cases A:k<r
  ·have U:((List.finRange r).take k).length<r:=by simp;omega
   obtain ⟨⟨e0,e1,e2⟩,ef⟩:=bx3 C
   have N:=Ge r c k g o T d wr hr hc A a1.out hd
   obtain ⟨D,Y,a2⟩:=af p C N;clear p C N
   gi_wp2_with fail
   refine ⟨trivial,(fun h=>by cases h),?_⟩
   refine (callsIn_wide.2 a2.out).mono ?_
   rintro e w3 ⟨rfl,I⟩
   have X:=hJ _ _ _ none D.out (kA I) (fun _ h=>by cases h)
   have u:=(I.block _ (JC Y.out)).trans Y.out
   obtain ⟨fn,tmps,a0,a6,hy,hR⟩:=hY _ ⟨k,A⟩ w3 X U
   unfold oH at hy
   dsimp only at hy
   have q:=aa u;clear X u I
   gi_wp2
   refine ⟨(fun h=>by cases h),?_⟩
   refine hR.mono ?_
   rintro e w5 (⟨rfl,O,R⟩ | ⟨rfl,Q⟩)
   ·have V:=(R.2 (JC q.out)).trans q.out
    obtain ⟨a3,a5⟩:=ae V O;clear V O R
    gi_wp2
    go_roundw
    case rel=>exact ⟨k+1,by omega,by go_num,by rw [Ae A];exact a5.out,a3.out⟩
    case measure=>simp [intOf];omega
   ·gi_wp2
    refine JQ (results_none rfl _ _ _) rfl ?_
    exact ⟨⟨_,rfl⟩,.inr ⟨_,trivial,Q⟩⟩
  ·obtain rfl:k=r:=by omega
   have y:(List.finRange k).take k=List.finRange k:=List.take_of_length_le (by simp)
   rw [y] at p
   have D:=aa p;clear p y
   gi_wp2
   go_end0
   exact ⟨⟨_,rfl⟩,.inl ⟨_,rfl,D.out⟩⟩
theorem mN (n p n₀ g o r c j d:Nat) (hr:r≤1048576) (hc:1≤c∧c≤1048576) (q:j=r*c) (u:j≤d) (w:World)
  (i:w.heap[p]?=some (.cells #[KL r,KL c,.slice (some ⟨g,o,none⟩) j d] 282 (0,0))):
  SeqStopsK Fence.wide n Tryz.prog 217 #[.pointer (some ⟨p,0,none⟩)] (oH (r:=r) g o c) (iu n₀ p) (fun ys=>ys=List.finRange r) (fun _=>True) r w:=fun l J A W v x _ B y=>
 DJ n l p n₀ g o r c j d hr hc q u J A _ x B W ((v.block _ (JC i)).trans i) y
end Go.Proofs.YtaccfnffmbndhaaGreat
namespace Go.Proofs.YtaccfnffmbndhaaGreat
open Go.RowKit Go.Shelf
theorem j9 {n₀ i:Nat} {A B C:World} (h:iu n₀ i A B) (k:iu n₀ i B C):iu n₀ i A C:=
 ⟨h.1.trans k.1,fun j=>(k.2 (JK j h.1.size)).trans (h.2 j)⟩
theorem ka {n₀ i:Nat} {w:World} (hn:n₀≤w.heap.size) (q:i<w.heap.size) (W:World) (l:Nat) (o j:Obj) (hl:w.heap.size≤l) (h:W.heap[l]?=some o) (h1:o.isCells=false) (p:o.isWalk=false):iu n₀ i W (W.putObj l j):=
 ⟨belowK_b hn W l o j hl h h1 p,fun _=>(belowK_b (n₀:=i+1) (by omega) W l o j hl h h1 p).block i (by omega)⟩
end Go.Proofs.YtaccfnffmbndhaaGreat
namespace Go.Proofs.YtaccfnffmbndhaaGreat
open Go.RowKit Go.Shelf
attribute [local go_sem] Oper.semAt_some
def ll (ms:List Int) (c k:Nat):List Int:=dh c fun j=>nth ms (k*c+j)
def BQ (ms:List Int) (r c:Nat) (xs:List Int) (q:Int):List Int:=dh r fun k=>rX (ll ms c k) xs q
theorem ik (ms:List Int) (c k:Nat):(ll ms c k).length=c:=bR _ _
theorem oN {r c k:Nat} (i:k<r):k*c+c≤r*c:=by
 have:=KH c (show k+1≤r by omega)
 rwa [Kx] at this
theorem fj (l:List Int) (m j:Nat):nth (l.drop m) j=nth l (m+j):=by simp [nth,List.getD_eq_getElem?_getD,List.getElem?_drop]
theorem eF {l:List Int} {m j:Nat} (h:j<m):nth (l.take m) j=nth l j:=by simp [nth,List.getD_eq_getElem?_getD,List.getElem?_take,h]
theorem Gx {ms:List Int} {r c k:Nat} (o:k<r) (hl:ms.length=r*c):(ms.drop (k*c)).take c=ll ms c k:=by
 have:=oN (c:=c) o
 refine eQ (by rw [Kk,Kn];omega) fun j i=>?_
 rw [eF i,fj]
theorem zW {W:World} {g o:Nat} {ms:List Int} {r c k:Nat} (h:Rd W (some ⟨g,o,none⟩) (aq .i64 ms)) (i:k<r) (hl:ms.length=r*c):Rd W (some ⟨g,o+k*c,none⟩) (aq .i64 (ll ms c k)):=by
 have:=(h.drop (k*c)).take c
 rwa [cV,cK,Gx i hl] at this
theorem vS {ms:List Int} {r c k:Nat} (h:W64 ms) (i:k<r) (hl:ms.length=r*c):W64 (ll ms c k):=fE fun j o=>h _ (by have:=oN (c:=c) i;omega)
theorem Et (r c k:Nat) (g o:Nat) (ms:List Int) (B:Option Addr) (xs:List Int) (e:Nat) (q:Int) (W:World) (p:k<r) (hc:1≤c∧c≤1048576) (j:ms.length=r*c)
  (hA:Rd W (some ⟨g,o,none⟩) (aq .i64 ms)) (x:W64 ms) (hB:Rd W B (aq .i64 xs)) (i:xs.length=c) (v:W64 xs):
  Calls Tryz.prog 227 #[.slice (some ⟨g,o+k*c,none⟩) c c,.slice B c e,KL q] W fun e u=>e=.returned (.tuple #[KL (rX (ll ms c k) xs q),.bool true])∧Below W.heap.size W u:=by
 have:=G7 (some ⟨g,o+k*c,none⟩) B (ll ms c k) xs c e q W (zW hA p j) hB (by rw [ik,i]) (by rw [ik];omega) (vS x p j) v
 rwa [ik,i] at this
theorem El (ms:List Int) (r c:Nat) (xs:List Int) (q:Int):((List.finRange r).map fun k=>rX (ll ms c k.1) xs q)=BQ ms r c xs q:=by
 refine eQ (by simp) fun k i=>?_
 rw [dI _ _ (by simpa using i)]
 simp
theorem Er (r c:Nat) (g o u d:Nat) (ms:List Int) (B:Option Addr) (xs:List Int) (e:Nat) (q:Int) (w:World) (hr:1≤r∧r≤1048576) (hc:1≤c∧c≤1048576) (Z:u=r*c) (hd:u≤d) (hm:u≤17592186043904)
  (b1:ms.length=u) (hA:Rd w (some ⟨g,o,none⟩) (aq .i64 ms)) (wm:W64 ms) (hB:Rd w B (aq .i64 xs)) (ad:xs.length=c) (wx:W64 xs):
  Calls Tryz.prog 215 #[.agg #[KL r,KL c,.slice (some ⟨g,o,none⟩) u d],.slice B c e,KL q] w fun e w'=>∃A' c',e=.returned (.tuple #[.slice A' r c',.bool true])∧w'.ownsRow w.heap.size 2 1 (.slice A' r c') r (aq .i64 (BQ ms r c xs q))∧Below w.heap.size w w':=by
 have ab:=fun w'=>lO r c (some ⟨g,o,none⟩) u d w' hr hc Z hm
 have aM:=fun cs w'=>qC cs w'
 obtain ⟨bb,bd,a0,b7,b8,HA,HB,WM⟩:=ak ab aM Z b1 ad hA hB wm;have WX:=aa wx;clear ab aM Z b1 ad hA hB wm wx
 refine (callsIn_wide (n:=3)).1 ?_
 refine callsIn_of_wp_marks Tryz.func215 rfl trivial ?_ rfl
 simp only [Tryz.ntmps215,List.size_toArray,List.length_cons,List.length_nil,Nat.reduceAdd,Nat.reduceSub,Array.replicate_succ,Array.replicate_zero,List.push_toArray,List.append_toArray,List.nil_append,List.cons_append]
 gi_wp2_with fail
 refine ⟨trivial,?_⟩
 refine (callsIn_wide.2 (bb.out _)).mono ?_
 rintro e w1 ⟨rfl,rfl⟩
 gi_wp2_with fail
 refine ⟨trivial,?_⟩
 refine (callsIn_wide.2 (bd.out _ _)).mono ?_
 rintro e w2 ⟨rfl,rfl⟩
 gi_wp2_with fail
 obtain ⟨j,hW0⟩:∃j,j=((((w.alloc (.cells #[KL r,KL c,.slice (some ⟨g,o,none⟩) u d] 282)).alloc (.cells #[.slice B c e] 64)).alloc (.cells #[KL q] 3)).alloc (.cells #[KL r,KL c,.slice (some ⟨g,o,none⟩) u d] 282)):=⟨_,rfl⟩
 have U:j.heap.size=w.heap.size+1+1+1+1:=by rw [hW0];simp
 have b4:Boxed j (w.heap.size+1) 64 (.slice B c e):=by
  rw [hW0]
  have:=((Boxed.new (w.alloc (.cells #[KL r,KL c,.slice (some ⟨g,o,none⟩) u d] 282)) 64 (.slice B c e)).alloc (.cells #[KL q] 3)).alloc (.cells #[KL r,KL c,.slice (some ⟨g,o,none⟩) u d] 282)
  simpa using this
 have b5:Boxed j (w.heap.size+1+1) 3 (KL q):=by
  rw [hW0]
  have:=(Boxed.new ((w.alloc (.cells #[KL r,KL c,.slice (some ⟨g,o,none⟩) u d] 282)).alloc (.cells #[.slice B c e] 64)) 3 (KL q)).alloc (.cells #[KL r,KL c,.slice (some ⟨g,o,none⟩) u d] 282)
  simpa using this
 have H:Below w.heap.size w j:=by rw [hW0];exact ((((JG _ w).alloc (JD _) _).alloc (by simp) _).alloc (by simp;omega) _).alloc (by simp;omega) _
 rw [←hW0,←U]
 have bO:=(Boxed.new j 64 (KN)).alloc (.cells #[KL r,KL c,.slice (some ⟨g,o,none⟩) u d] 282)
 have bM:((j.alloc (.cells #[KN] 64)).alloc (.cells #[KL r,KL c,.slice (some ⟨g,o,none⟩) u d] 282)).heap[j.heap.size+1]?=some (.cells #[KL r,KL c,.slice (some ⟨g,o,none⟩) u d] 282 (0,0)):=by
  have:=JE (j.alloc (.cells #[KN] 64)) (.cells #[KL r,KL c,.slice (some ⟨g,o,none⟩) u d] 282)
  simpa using this
 obtain ⟨a4,p,aR⟩:=af U H bM;clear hW0;clear U H bM
 refine' wpIn_rangeFunc_ownG (F:=Fence.wide) (n:=3) rfl (by omega) (gf:=217) (lb:=#[.pointer (some ⟨j.heap.size+1,0,none⟩)]) rfl trivial (enters_of Tryz.func217 (by kernel_rfl) rfl)
  (mN _ (j.heap.size+1) w.heap.size g o r c u d hr.2 hc a0.out hd _ aR.out) j9 (ka (by have:=p.out.size;simp;omega) (by simp)) (JG _ _) (fun _=>rfl)
  (fun (i:List (Fin r)) W=>((∃v,Boxed W j.heap.size 64 v∧W.ownsRow w.heap.size 2 1 v i.length (aq .i64 (i.map fun k=>rX (ll ms c k.1) xs q))∧True)∧Boxed W (w.heap.size+1) 64 (.slice B c e)∧Boxed W (w.heap.size+1+1) 3 (KL q)∧W.heap[j.heap.size+1]?=some (.cells #[KL r,KL c,.slice (some ⟨g,o,none⟩) u d] 282 (0,0)))∧Below w.heap.size w W)
  (fun _ _ _=>False)
  (OwnFrom.and (OwnFrom.and (Own.from (holdsRow_own w.heap.size j.heap.size 64 2 1 (fun i:List (Fin r)=>i.length) (fun i=>aq .i64 (i.map fun k=>rX (ll ms c k.1) xs q)) (fun _ _=>True)) _) (OwnFrom.and (fH _ _ _ rfl) (OwnFrom.and (fH _ _ _ rfl) (fH _ _ _ rfl)))) (ownFrom_below (JD _) (by have:=p.out.size;simp;omega)))
  (fun _ _ _ _ _ hs _ _=>hs)
  ⟨⟨⟨_,bO,JO _ _ _ _,trivial⟩,(b4.alloc _).alloc _,(b5.alloc _).alloc _,aR.out⟩,(p.out.alloc (by have:=p.out.size;omega) _).alloc (by have:=p.out.size;simp;omega) _⟩
  _ ?assign ?body ?done ?stop
 case assign=>
  intro l x W K hK
  unfold oH
  gi_wp2
  exact hK
 case body=>
  rintro l i x W ⟨⟨⟨v,hv,A,_⟩,J,L,T⟩,N⟩ ao
  have be:=J.cell
  have bl:=L.cell
  obtain ⟨Hv,a3,HM,I,H4,H5,bo⟩:=aj hv A T N J L ao;clear hv A T N J L ao
  gi_wp2_with fail
  refine ⟨trivial,?_⟩
  refine (CallsIn.inRound l (callsIn_wide.2 (Et r c x.1 g o ms B xs _ q W x.2 hc (b7.out.trans a0.out) (HA.out.below I.out) WM.out (HB.out.below I.out) b8.out WX.out))).mono ?_
  rintro e w3 ⟨rfl,y⟩
  have X:Boxed w3 j.heap.size 64 v:=(y.block _ (Boxed.lt Hv.out)).trans Hv.out
  have bf:=X.cell
  have C:=ap a3.out y
  have a1:w.heap.size≤w3.heap.size:=JJ I.out.size y.size
  have aG:w.heap.size≤j.heap.size:=p.out.size
  have aP:i.length<r:=bo.out
  have Q:=(y.block _ (JC HM.out)).trans HM.out
  have R:=(y.block _ (JC H4.out)).trans H4.out
  have O:=(y.block _ (JC H5.out)).trans H5.out
  obtain ⟨a6,a7,a5,bi,av,V,bn,b9⟩:=ak Q R O X y C a1 aG;have a8:=aa aP;clear X y C a1 aG aP Q R O be bl
  obtain ⟨dv,Y⟩:∃dv,dv=rX (ll ms c x.1) xs q:=⟨_,rfl⟩
  have bh:=aa Y
  rw [←Y]
  clear Y
  gi_wp2_with (gi_at_builtin;refine mt kD w3 rfl (.tmp 34) (.tmp 36) rfl w.heap.size j.heap.size v i.length _ rfl bi.out (by decide) V.out [KL dv] rfl rfl (bP .i64 [dv]) (by have:=a8.out;have:=hr.2;omega) (by have:=a8.out;have:=hr.2;unfold maxLen;omega) bn.out b9.out ?_)
  intro g1 c1 w1 k1 k2 k3 k4 k5 k6
  have bv:=k1.cell;have bs:=k1.frozen
  obtain ⟨K2,K3,K4,K5,K6⟩:=ah k2 k3 k4 k5 k6;clear k1 k2 k3 k4 k5 k6 bf
  gi_wp2_with fail
  have b2:Below w.heap.size W (w1.setCell ⟨j.heap.size,0,none⟩ (.slice (some ⟨g1,0,none⟩) (i.length+1) c1)):=(av.out.mono I.out.size).trans K5.out
  have b6:j.heap.size+1≠j.heap.size:=by omega
  have b3:w.heap.size+1≠j.heap.size:=by have:=a4.out;omega
  have b0:w.heap.size+1+1≠j.heap.size:=by have:=a4.out;omega
  have a2:=K6.out _ _ _ _ _ b6 (by decide) a6.out
  refine ⟨((KeepsOthers.of_grownBy (row:=none) (kA av.out) (fun _ _ h=>by cases h)).trans K4.out).from _,⟨b2,fun _=>a2.trans HM.out.symm⟩,⟨⟨_,K2.out,?_,trivial⟩,K6.out _ _ _ _ _ b3 (by decide) a7.out,K6.out _ _ _ _ _ b0 (by decide) a5.out,a2⟩,I.out.trans b2⟩
  have h:=K3.out
  rw [bh.out] at h
  simpa [aq] using h
 case done=>
  rintro D ys W hD rfl ⟨⟨⟨v,hv,A,_⟩,J,L,T⟩,N⟩ hK
  have hc:=hv.cell
  gi_wp2
  refine ⟨by simp,.inl ⟨_,_,rfl,run_takeDeferred hK,?_⟩⟩
  obtain ⟨A',c',rfl,_⟩:=aw A
  rw [List.length_finRange,El] at *
  refine ⟨.tuple #[.slice A' r c',.bool true],by simp [results,Tryz.results215,go_sem],A',c',rfl,ownsRow_putObj A _ hK rfl,N.trans (belowK_b (w:=w) (JD _) W D _ _ (by have:=p.out.size;simp at hD;omega) hK rfl rfl)⟩
 case stop=>
  rintro D c i W _ _ h _
  exact h.elim
end Go.Proofs.YtaccfnffmbndhaaGreat
namespace Go.Proofs.YtaccfnffmbndhaaGreat
open Go.RowKit
def sE (l:List Int):List Int:=dh l.length fun i=>max (nth l i) 0
def zL (sz ps:List Int) (q:Int) (k:Nat) (v:List Int):List Int:=eI (BQ (wL sz ps k) (szN sz (k+1)) (szN sz k) v q) (bL sz ps k)
def cT (sz ps:List Int) (q:Int) (x:List Int):Nat→List Int
 | 0=>x
 | k+1=>if k+1<sz.length-1 then sE (zL sz ps q k (cT sz ps q x k)) else zL sz ps q k (cT sz ps q x k)
theorem W64.nth {l:List Int} (h:W64 l) (k:Nat): -9223372036854775808≤nth l k∧nth l k≤9223372036854775807:=by
 by_cases i:k<l.length
 ·exact h k i
 ·have:Go.Proofs.YtaccfnffmbndhaaGreat.nth l k=0:=by unfold Go.Proofs.YtaccfnffmbndhaaGreat.nth;simp [List.getD,List.getElem?_eq_none (show l.length≤k by omega)]
  omega
theorem C8 {ps:List Int} (h:W64 ps) (sz:List Int) (k:Nat):W64 (wL sz ps k):=fE fun _ _=>h.nth _
theorem vQ (ms:List Int) (r c:Nat) (xs:List Int) (q:Int):(BQ ms r c xs q).length=r:=bR _ _
theorem ir (xs ys:List Int):(eI xs ys).length=xs.length:=bR _ _
theorem rP (xs ys:List Int):W64 (eI xs ys):=fE fun _ _=>gH _
theorem Bj (l:List Int):(sE l).length=l.length:=bR _ _
theorem Bk {l:List Int} (h:W64 l):W64 (sE l):=fE fun k _=>by have:=h.nth k;omega
theorem tH (sz ps:List Int) (q:Int) (k:Nat) (v:List Int):(zL sz ps q k v).length=szN sz (k+1):=by unfold zL;rw [ir,vQ]
theorem C3 (sz ps:List Int) (q:Int) (k:Nat) (v:List Int):W64 (zL sz ps q k v):=rP _ _
theorem eC {sz ps:List Int} {q:Int} {x:List Int} (h:x.length=szN sz 0) (k:Nat):(cT sz ps q x k).length=szN sz k:=by
 cases k with
 | zero=>exact h
 | succ k=>
  unfold cT
  split
  ·rw [Bj,tH]
  ·rw [tH]
theorem nl {sz ps:List Int} {q:Int} {x:List Int} (h:W64 x) (k:Nat):W64 (cT sz ps q x k):=by
 cases k with
 | zero=>exact h
 | succ k=>
  unfold cT
  split
  ·exact Bk (C3 _ _ _ _ _)
  ·exact C3 _ _ _ _ _
def iz (w:World) (vals:List Value) (n:Nat) (f:Nat→List Int):Prop:=vals.length=n∧∀j,j<n→∃A c,vals[j]?=some (.slice A (f j).length c)∧(f j).length≤c∧Rd w A (aq .i64 (f j))
theorem iz.below {w i:World} {vals:List Value} {n:Nat} {f:Nat→List Int} (h:iz w vals n f) (u:Below w.heap.size w i):iz i vals n f:=
 ⟨h.1,fun j o=>by obtain ⟨A,c,h1,p,q⟩:=h.2 j o;exact ⟨A,c,h1,p,q.below u⟩⟩
end Go.Proofs.YtaccfnffmbndhaaGreat
