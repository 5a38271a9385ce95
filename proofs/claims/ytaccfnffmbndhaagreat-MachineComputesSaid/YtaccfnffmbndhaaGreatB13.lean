/- The walks of sakiaref01. A network in plain lists: its weights and biases, its values, its gradient; and in memory. No condition. -/
import Derived.Test.YtaccfnffmbndhaaGreatB12
import Derived.Test.YtaccfnffmbndhaaGreatB04
import Derived.Test.YtaccfnffmbndhaaGreatB02
set_option linter.unusedSimpArgs false
set_option linter.unusedVariables false
namespace Go.Proofs.YtaccfnffmbndhaaGreat
open Go.RowKit
theorem rgate_any (a g:Int) (w:World):Calls Tryz.prog 185 #[.int .i64 a,.int .i64 g] w fun e w' => e = .returned (.int .i64 (if 0 < a then g else 0)) ∧ w = w':=by
  by_cases h:0 < a
  · rw [if_pos h]
    go_enter Tryz.func185,Tryz.ntmps185
    go_wp2
    go_ret
    exact ⟨rfl,rfl⟩
  · rw [if_neg h]
    go_enter Tryz.func185,Tryz.ntmps185
    go_wp2
    go_ret
    exact ⟨rfl,rfl⟩
def pb (b:Int) (k:Nat):Int:=if k ≤ 63 then uw b % 2 ^ k else b
def rHi (a b:Int) (k:Nat):Int:=uw (a * pb b k / 18446744073709551616)
def rLo (a b:Int) (k:Nat):Int:=uw (a * pb b k)
theorem add128_lo (N X:Int):uw (uw N + uw X) = uw (N + X):=by unfold uw;omega
theorem add128_0 (N X:Int) (h:¬ uw (uw N + uw X) < uw N):uw (uw (N / 18446744073709551616) + uw (X / 18446744073709551616)) = uw ((N + X) / 18446744073709551616):=by unfold uw at *;omega
theorem add128_1 (N X:Int) (h:uw (uw N + uw X) < uw N):uw (uw (uw (N / 18446744073709551616) + 1) + uw (X / 18446744073709551616)) = uw ((N + X) / 18446744073709551616):=by unfold uw at *;omega
theorem neg128_lo (X:Int):uw (18446744073709551615 - uw X + 1) = uw (-X):=by unfold uw;omega
theorem neg128_0 (X:Int) (h:¬ uw (-X) = 0):18446744073709551615 - uw (X / 18446744073709551616) = uw (-X / 18446744073709551616):=by unfold uw at *;omega
theorem neg128_1 (X:Int) (h:uw (-X) = 0):uw (18446744073709551615 - uw (X / 18446744073709551616) + 1) = uw (-X / 18446744073709551616):=by unfold uw at *;omega
theorem wrap_u (x:Int):IntKind.u64.wrap x = uw x:=by rw [IntKind.wrap_u64];rfl
theorem and_one (x:Int) (h:0 ≤ x ∧ x < 18446744073709551616):bits .and .u64 x 1 = x % 2:=by
  obtain ⟨n,rfl⟩:=Int.eq_ofNat_of_zero_le h.1
  have h1:=bits_and_u64_nat n 1 (by omega) (by omega)
  have e:n &&& 1 = n % 2:=Nat.and_one_is_mod n
  rw [e] at h1
  simpa using h1
theorem xor_all (x:Int) (h:0 ≤ x ∧ x < 18446744073709551616):bits .xor .u64 (if IntKind.u64.signed = true then -1 else IntKind.u64.max) x = 18446744073709551615 - x:=by
  obtain ⟨n,rfl⟩:=Int.eq_ofNat_of_zero_le h.1
  have hn:n < 18446744073709551616:=by omega
  have h1:bits .xor .u64 (if IntKind.u64.signed = true then -1 else IntKind.u64.max) (n:Int) = IntKind.u64.wrap ((BitVec.ofInt 64 18446744073709551615 ^^^ BitVec.ofInt 64 (n:Int)).toNat:Int):=rfl
  have h2:BitVec.ofInt 64 18446744073709551615 = BitVec.allOnes 64:=by decide
  have h3:(BitVec.ofInt 64 (n:Int)).toNat = n:=by rw [BitVec.ofInt_natCast,BitVec.toNat_ofNat];exact Nat.mod_eq_of_lt (by omega)
  rw [h1,h2,BitVec.allOnes_xor,BitVec.toNat_not,h3,wrap_u]
  unfold uw
  omega
theorem or_low (m k:Nat) (y:Nat) (hy:y < 2 ^ k) (hx:2 ^ k * m < 18446744073709551616) (hk:k ≤ 64):bits .or .u64 ((2 ^ k * m:Nat):Int) (y:Int) = ((2 ^ k * m:Nat):Int) + (y:Int):=by
  have hy2:y < 18446744073709551616:=Nat.lt_of_lt_of_le hy (by have:=Nat.pow_le_pow_right (n:=2) (by decide) hk;simpa using this)
  rw [bits_or_u64_nat _ _ hx hy2,← Nat.two_pow_add_eq_or_of_lt hy]
  simp
theorem pow_split (k:Nat) (hk:k ≤ 64):(18446744073709551616:Int) = 2 ^ (64 - k) * 2 ^ k:=by rw [← Int.pow_add,show 64 - k + k = 64 by omega];rfl
theorem pow_splitN (k:Nat) (hk:k ≤ 64):(18446744073709551616:Nat) = 2 ^ (64 - k) * 2 ^ k:=by rw [← Nat.pow_add,show 64 - k + k = 64 by omega]
theorem sh_lo (a:Int) (k:Nat):IntKind.u64.wrap (IntKind.u64.wrap a * 2 ^ k) = uw (a * 2 ^ k):=by
  rw [wrap_u,wrap_u]
  unfold uw
  rw [Int.mul_emod,Int.emod_emod_of_dvd _ (Int.dvd_refl _),← Int.mul_emod]
theorem sh_hi (a:Int) (k:Nat) (hk0:0 < k) (hk:k ≤ 63) (ha:-9223372036854775808 ≤ a ∧ a ≤ 9223372036854775807) (S:Int) (hS:(S = 18446744073709551615 ∧ a < 0) ∨ (S = 0 ∧ 0 ≤ a)) :
    bits .or .u64 (IntKind.u64.wrap (S * 2 ^ k)) (IntKind.u64.wrap a / 2 ^ (64 - k)) = uw (a * 2 ^ k / 18446744073709551616):=by
  obtain ⟨U,hU,hU2⟩:=uw_nat a
  have hp:=pow_split k (by omega)
  have hpN:=pow_splitN k (by omega)
  have hq:(0:Int) < 2 ^ (64 - k):=Int.pow_pos (by decide)
  have hk2:(0:Int) < 2 ^ k:=Int.pow_pos (by decide)
  have e1:a * 2 ^ k / 18446744073709551616 = a / 2 ^ (64 - k):=by
    rw [hp];exact Int.mul_ediv_mul_of_pos_left _ _ hk2
  have hb:U / 2 ^ (64 - k) < 2 ^ k:=by
    rw [Nat.div_lt_iff_lt_mul (Nat.pow_pos (by decide)),Nat.mul_comm];omega
  have hy:IntKind.u64.wrap a / 2 ^ (64 - k) = ((U / 2 ^ (64 - k):Nat):Int):=by rw [wrap_u,hU];simp
  have hle:2 ^ k ≤ 9223372036854775808:=by have:=Nat.pow_le_pow_right (n:=2) (by decide) hk;simpa using this
  have hkp:0 < 2 ^ k:=Nat.pow_pos (by decide)
  rw [e1,hy]
  rcases hS with ⟨rfl,h⟩ | ⟨rfl,h⟩
  · have hw:IntKind.u64.wrap (18446744073709551615 * 2 ^ k) = ((2 ^ k * (2 ^ (64 - k) - 1):Nat):Int):=by
      have h1:((2 ^ k * (2 ^ (64 - k) - 1):Nat):Int) = 18446744073709551616 - 2 ^ k:=by
        have h3:2 ^ k * (2 ^ (64 - k) - 1) + 2 ^ k = 18446744073709551616:=by
          rw [← Nat.mul_succ,Nat.succ_eq_add_one,Nat.sub_add_cancel (Nat.pow_pos (by decide)),Nat.mul_comm];exact hpN.symm
        have h4:((2 ^ k:Nat):Int) = 2 ^ k:=by simp
        omega
      rw [h1,wrap_u]
      unfold uw
      have h5:((2 ^ k:Nat):Int) = 2 ^ k:=by simp
      omega
    rw [hw,or_low _ _ _ hb (by rw [hpN,Nat.mul_comm];exact Nat.mul_lt_mul_of_pos_right (by have:0 < 2 ^ (64 - k):=Nat.pow_pos (by decide);omega) hkp) (by omega),← hw,wrap_u]
    have e2:a = (U:Int) + (-(2 ^ k)) * 2 ^ (64 - k):=by
      have:(2:Int) ^ k * 2 ^ (64 - k) = 18446744073709551616:=by rw [Int.mul_comm];exact hp.symm
      rw [Int.neg_mul,this]
      unfold uw at hU;omega
    rw [e2,Int.add_mul_ediv_right _ _ (by omega)]
    have h6:((U / 2 ^ (64 - k):Nat):Int) = (U:Int) / 2 ^ (64 - k):=by simp
    rw [← h6]
    have h5:(2:Int) ^ k = ((2 ^ k:Nat):Int):=by simp
    rw [h5]
    generalize U / 2 ^ (64 - k) = Y at *
    generalize 2 ^ k = P at *
    clear e1 hy hw e2 h6 hp hpN hq hk2 h5 hU
    unfold uw
    omega
  · have hw:IntKind.u64.wrap (0 * 2 ^ k) = ((2 ^ k * 0:Nat):Int):=by rw [Int.zero_mul];rfl
    rw [hw,or_low _ _ _ hb (by simp) (by omega)]
    have e2:a = (U:Int):=by unfold uw at hU;omega
    rw [e2]
    have h6:((U / 2 ^ (64 - k):Nat):Int) = (U:Int) / 2 ^ (64 - k):=by simp
    rw [← h6]
    generalize U / 2 ^ (64 - k) = Y at *
    generalize 2 ^ k = P at *
    clear e1 hy hw e2 h6 hp hpN hq hk2 hU
    unfold uw
    omega
theorem sh_hi0 (a:Int) (k:Nat) (hk:k ≤ 0) (ha:-9223372036854775808 ≤ a ∧ a ≤ 9223372036854775807) (S:Int) (hS:(S = 18446744073709551615 ∧ a < 0) ∨ (S = 0 ∧ 0 ≤ a)):S = uw (a * 2 ^ k / 18446744073709551616):=by
  obtain rfl:k = 0:=by omega
  unfold uw;rw [Int.pow_zero,Int.mul_one];omega
theorem bit_eq (b:Int) (k:Nat) (hk:k < 64):bits .and .u64 (IntKind.u64.wrap b / 2 ^ k) 1 = uw b / 2 ^ k % 2:=by
  rw [wrap_u]
  obtain ⟨V,hV,hV2⟩:=uw_nat b
  rw [hV]
  have h6:(V:Int) / 2 ^ k = ((V / 2 ^ k:Nat):Int):=by simp
  rw [h6]
  have h7:=Nat.div_le_self V (2 ^ k)
  generalize V / 2 ^ k = Z at *
  exact and_one _ ⟨by omega,by omega⟩
theorem pb_step (b:Int) (k:Nat) (hk:k < 63):pb b (k + 1) = pb b k + (uw b / 2 ^ k % 2) * 2 ^ k:=by
  unfold pb
  rw [if_pos (by omega),if_pos (by omega)]
  obtain ⟨V,hV,_⟩:=uw_nat b
  rw [hV]
  have h:=Nat.mod_pow_succ (b:=2) (x:=V) (k:=k)
  have h1:((V % 2 ^ (k + 1):Nat):Int) = (V:Int) % 2 ^ (k + 1):=by simp
  rw [← h1,h]
  simp [Int.mul_comm]
theorem pb_last (b:Int) (hb:-9223372036854775808 ≤ b ∧ b ≤ 9223372036854775807):pb b 64 = pb b 63 - (uw b / 2 ^ 63 % 2) * 2 ^ 63:=by
  unfold pb
  rw [if_neg (by omega),if_pos (by omega)]
  unfold uw
  omega
theorem pb_0 (b:Int):pb b 0 = 0:=by unfold pb;rw [if_pos (by omega),Int.pow_zero];omega
theorem pb_64 (b:Int):pb b 64 = b:=by unfold pb;rw [if_neg (by omega)]
theorem r_same {a b:Int} {k:Nat} (h:pb b (k + 1) = pb b k):rHi a b k = rHi a b (k + 1) ∧ rLo a b k = rLo a b (k + 1):=by unfold rHi rLo;rw [h];exact ⟨rfl,rfl⟩
theorem r_add {a b X:Int} {k:Nat} (h:a * pb b (k + 1) = a * pb b k + X) (XL XH:Int) (hL:XL = uw X) (hH:XH = uw (X / 18446744073709551616)) :
    IntKind.u64.wrap (rLo a b k + XL) = rLo a b (k + 1) ∧ (rLo a b (k + 1) < rLo a b k → IntKind.u64.wrap (IntKind.u64.wrap (rHi a b k + 1) + XH) = rHi a b (k + 1)) ∧ (¬ rLo a b (k + 1) < rLo a b k → IntKind.u64.wrap (rHi a b k + XH) = rHi a b (k + 1)):=by
  subst hL;subst hH
  simp only [wrap_u]
  unfold rHi rLo
  rw [h]
  have e:=add128_lo (a * pb b k) X
  refine ⟨e,fun hc => ?_,fun hc => ?_⟩
  · exact add128_1 _ _ (by rw [e];exact hc)
  · exact add128_0 _ _ (by rw [e];exact hc)
set_option maxHeartbeats 2000000 in
theorem rprod_any (a b:Int) (w:World) (ha:-9223372036854775808 ≤ a ∧ a ≤ 9223372036854775807) (hb:-9223372036854775808 ≤ b ∧ b ≤ 9223372036854775807) :
    Calls Tryz.prog 162 #[.int .i64 a,.int .i64 b] w fun e w' => e = .returned (.tuple #[.int .i64 (prodHi a b),.int .u64 (prodLo a b)]) ∧ w = w':=by
  by_cases hs:a < 0
  · have h00:rHi a b 0 = 0 ∧ rLo a b 0 = 0:=by unfold rHi rLo;rw [pb_0,Int.mul_zero];exact ⟨rfl,rfl⟩
    have H00:=Lib.hid h00;clear h00
    go_enter Tryz.func162,Tryz.ntmps162
    go_wp2_with fail
    go_loop [6,7,9] (fun h l i => ∃ k:Nat,k ≤ 64 ∧ i = .int .i64 k ∧ h = .int .u64 (rHi a b k) ∧ l = .int .u64 (rLo a b k)) (fun _ _ i => 64 - (intOf i).toNat)
    case atStart => exact ⟨0,by omega,rfl,by rw [H00.out.1],by rw [H00.out.2]⟩
    case round =>
      obtain ⟨k,hk,rfl,rfl,rfl⟩:=hrel
      have HSG:=Lib.hid hs;clear hs
      by_cases hlt:k < 64
      · have hbit:=bit_eq b k hlt
        obtain ⟨t,ht⟩:∃ t,uw b / 2 ^ k % 2 = t:=⟨_,rfl⟩
        have ht2:t = 0 ∨ t = 1:=by omega
        rw [ht] at hbit
        rcases ht2 with h0 | h1
        · subst h0
          have hpb:pb b (k + 1) = pb b k:=by
            rcases Nat.lt_or_ge k 63 with h | h
            · rw [pb_step b k h,ht];omega
            · obtain rfl:k = 63:=by omega
              rw [pb_last b hb,ht];omega
          have hb0:(bits .and .u64 (IntKind.u64.wrap b / 2 ^ k) 1 == 0) = true:=by rw [hbit];rfl
          have hr:=r_same (a:=a) hpb
          have Hr:=Lib.hid hr;clear hr hpb ht hbit
          go_wp2_with fail
          go_round
          case rel => exact ⟨k + 1,by omega,by go_num,by rw [Hr.out.1],by rw [Hr.out.2]⟩
          case measure => simp [intOf];omega
        · subst h1
          have hb1:(bits .and .u64 (IntKind.u64.wrap b / 2 ^ k) 1 == 0) = false:=by rw [hbit];rfl
          have e1:=sh_lo a k
          rcases (show k ≤ 0 ∨ (0 < k ∧ k < 63) ∨ 63 ≤ k by omega) with h | ⟨h,h'⟩ | h
          · have hr:=r_add (a:=a) (b:=b) (k:=k) (X:=a * 2 ^ k) (by rw [pb_step b k (by omega),ht,Int.mul_add,Int.one_mul]) (uw (a * 2 ^ k)) (18446744073709551615) rfl (sh_hi0 a k h ha _ (.inl ⟨rfl,HSG.out⟩))
            have h63:((k:Int) == 63) = false:=by simp;omega
            clear ht hbit
            obtain ⟨g1,g2,g3⟩:=hr
            by_cases hc:rLo a b (k + 1) < rLo a b k
            · have g4:=g2 hc
              clear g2 g3
              go_wp2_with fail
              go_round
              case rel => exact ⟨k + 1,by omega,by go_num,rfl,rfl⟩
              case measure => simp [intOf];omega
            · have g4:=g3 hc
              clear g2 g3
              go_wp2_with fail
              go_round
              case rel => exact ⟨k + 1,by omega,by go_num,rfl,rfl⟩
              case measure => simp [intOf];omega
          · have e2:=sh_hi a k h (by omega) ha (18446744073709551615) (.inl ⟨rfl,HSG.out⟩)
            have hr:=r_add (a:=a) (b:=b) (k:=k) (X:=a * 2 ^ k) (by rw [pb_step b k h',ht,Int.mul_add,Int.one_mul]) (uw (a * 2 ^ k)) (uw (a * 2 ^ k / 18446744073709551616)) rfl rfl
            have h63:((k:Int) == 63) = false:=by simp;omega
            clear ht hbit
            obtain ⟨g1,g2,g3⟩:=hr
            by_cases hc:rLo a b (k + 1) < rLo a b k
            · have g4:=g2 hc
              clear g2 g3
              go_wp2_with fail
              go_round
              case rel => exact ⟨k + 1,by omega,by go_num,rfl,rfl⟩
              case measure => simp [intOf];omega
            · have g4:=g3 hc
              clear g2 g3
              go_wp2_with fail
              go_round
              case rel => exact ⟨k + 1,by omega,by go_num,rfl,rfl⟩
              case measure => simp [intOf];omega
          · have e2:=sh_hi a k (by omega) (by omega) ha (18446744073709551615) (.inl ⟨rfl,HSG.out⟩)
            have e3:=xor_all (uw (a * 2 ^ k)) (uw_bd _)
            have e4:=xor_all (uw (a * 2 ^ k / 18446744073709551616)) (uw_bd _)
            have e5:IntKind.u64.wrap (18446744073709551615 - uw (a * 2 ^ k) + 1) = uw (-(a * 2 ^ k)):=by rw [wrap_u];exact neg128_lo _
            have h63:((k:Int) == 63) = true:=by simp;omega
            have hr:=r_add (a:=a) (b:=b) (k:=k) (X:=-(a * 2 ^ k)) (by obtain rfl:k = 63:=(by omega);rw [pb_last b hb,ht,Int.mul_sub,Int.one_mul];omega) (uw (-(a * 2 ^ k))) (uw (-(a * 2 ^ k) / 18446744073709551616)) rfl rfl
            clear ht hbit
            by_cases hz:uw (-(a * 2 ^ k)) = 0
            · have e6:IntKind.u64.wrap (18446744073709551615 - uw (a * 2 ^ k / 18446744073709551616) + 1) = uw (-(a * 2 ^ k) / 18446744073709551616):=by rw [wrap_u];exact neg128_1 _ hz
              have e7:(uw (-(a * 2 ^ k)) == 0) = true:=by rw [hz];rfl
              clear hz
              obtain ⟨g1,g2,g3⟩:=hr
              by_cases hc:rLo a b (k + 1) < rLo a b k
              · have g4:=g2 hc
                clear g2 g3
                go_wp2_with fail
                go_round
                case rel => exact ⟨k + 1,by omega,by go_num,rfl,rfl⟩
                case measure => simp [intOf];omega
              · have g4:=g3 hc
                clear g2 g3
                go_wp2_with fail
                go_round
                case rel => exact ⟨k + 1,by omega,by go_num,rfl,rfl⟩
                case measure => simp [intOf];omega
            · have e6:18446744073709551615 - uw (a * 2 ^ k / 18446744073709551616) = uw (-(a * 2 ^ k) / 18446744073709551616):=neg128_0 _ hz
              have e7:(uw (-(a * 2 ^ k)) == 0) = false:=by simpa using hz
              clear hz
              obtain ⟨g1,g2,g3⟩:=hr
              by_cases hc:rLo a b (k + 1) < rLo a b k
              · have g4:=g2 hc
                clear g2 g3
                go_wp2_with fail
                go_round
                case rel => exact ⟨k + 1,by omega,by go_num,rfl,rfl⟩
                case measure => simp [intOf];omega
              · have g4:=g3 hc
                clear g2 g3
                go_wp2_with fail
                go_round
                case rel => exact ⟨k + 1,by omega,by go_num,rfl,rfl⟩
                case measure => simp [intOf];omega
      · obtain rfl:k = 64:=by omega
        have hh:wrap64 (rHi a b 64) = prodHi a b:=by
          unfold rHi;rw [pb_64,wrap64_uw];exact wrap64_id (prodHi_bd ha hb).1 (prodHi_bd ha hb).2
        have hl:rLo a b 64 = prodLo a b:=by unfold rLo prodLo;rw [pb_64]
        have Hh:=Lib.hid hh;have Hl:=Lib.hid hl;clear hh hl
        rw [show (((64:Nat):Int)) = 64 from rfl]
        go_wp2_with fail
        go_ret2
        exact ⟨by rw [Hh.out,Hl.out];rfl,rfl⟩
  · have h00:rHi a b 0 = 0 ∧ rLo a b 0 = 0:=by unfold rHi rLo;rw [pb_0,Int.mul_zero];exact ⟨rfl,rfl⟩
    have H00:=Lib.hid h00;clear h00
    go_enter Tryz.func162,Tryz.ntmps162
    go_wp2_with fail
    go_loop [6,7,9] (fun h l i => ∃ k:Nat,k ≤ 64 ∧ i = .int .i64 k ∧ h = .int .u64 (rHi a b k) ∧ l = .int .u64 (rLo a b k)) (fun _ _ i => 64 - (intOf i).toNat)
    case atStart => exact ⟨0,by omega,rfl,by rw [H00.out.1],by rw [H00.out.2]⟩
    case round =>
      obtain ⟨k,hk,rfl,rfl,rfl⟩:=hrel
      have HSG:=Lib.hid hs;clear hs
      by_cases hlt:k < 64
      · have hbit:=bit_eq b k hlt
        obtain ⟨t,ht⟩:∃ t,uw b / 2 ^ k % 2 = t:=⟨_,rfl⟩
        have ht2:t = 0 ∨ t = 1:=by omega
        rw [ht] at hbit
        rcases ht2 with h0 | h1
        · subst h0
          have hpb:pb b (k + 1) = pb b k:=by
            rcases Nat.lt_or_ge k 63 with h | h
            · rw [pb_step b k h,ht];omega
            · obtain rfl:k = 63:=by omega
              rw [pb_last b hb,ht];omega
          have hb0:(bits .and .u64 (IntKind.u64.wrap b / 2 ^ k) 1 == 0) = true:=by rw [hbit];rfl
          have hr:=r_same (a:=a) hpb
          have Hr:=Lib.hid hr;clear hr hpb ht hbit
          go_wp2_with fail
          go_round
          case rel => exact ⟨k + 1,by omega,by go_num,by rw [Hr.out.1],by rw [Hr.out.2]⟩
          case measure => simp [intOf];omega
        · subst h1
          have hb1:(bits .and .u64 (IntKind.u64.wrap b / 2 ^ k) 1 == 0) = false:=by rw [hbit];rfl
          have e1:=sh_lo a k
          rcases (show k ≤ 0 ∨ (0 < k ∧ k < 63) ∨ 63 ≤ k by omega) with h | ⟨h,h'⟩ | h
          · have hr:=r_add (a:=a) (b:=b) (k:=k) (X:=a * 2 ^ k) (by rw [pb_step b k (by omega),ht,Int.mul_add,Int.one_mul]) (uw (a * 2 ^ k)) (0) rfl (sh_hi0 a k h ha _ (.inr ⟨rfl,by have:=HSG.out;omega⟩))
            simp only [Int.add_zero] at hr
            have h63:((k:Int) == 63) = false:=by simp;omega
            clear ht hbit
            obtain ⟨g1,g2,g3⟩:=hr
            by_cases hc:rLo a b (k + 1) < rLo a b k
            · have g4:=g2 hc
              clear g2 g3
              go_wp2_with fail
              go_round
              case rel => exact ⟨k + 1,by omega,by go_num,rfl,rfl⟩
              case measure => simp [intOf];omega
            · have g4:=g3 hc
              clear g2 g3
              go_wp2_with fail
              go_round
              case rel => exact ⟨k + 1,by omega,by go_num,rfl,rfl⟩
              case measure => simp [intOf];omega
          · have e2:=sh_hi a k h (by omega) ha (0) (.inr ⟨rfl,by have:=HSG.out;omega⟩)
            rw [Int.zero_mul,show IntKind.u64.wrap 0 = 0 from rfl] at e2
            have hr:=r_add (a:=a) (b:=b) (k:=k) (X:=a * 2 ^ k) (by rw [pb_step b k h',ht,Int.mul_add,Int.one_mul]) (uw (a * 2 ^ k)) (uw (a * 2 ^ k / 18446744073709551616)) rfl rfl
            have h63:((k:Int) == 63) = false:=by simp;omega
            clear ht hbit
            obtain ⟨g1,g2,g3⟩:=hr
            by_cases hc:rLo a b (k + 1) < rLo a b k
            · have g4:=g2 hc
              clear g2 g3
              go_wp2_with fail
              go_round
              case rel => exact ⟨k + 1,by omega,by go_num,rfl,rfl⟩
              case measure => simp [intOf];omega
            · have g4:=g3 hc
              clear g2 g3
              go_wp2_with fail
              go_round
              case rel => exact ⟨k + 1,by omega,by go_num,rfl,rfl⟩
              case measure => simp [intOf];omega
          · have e2:=sh_hi a k (by omega) (by omega) ha (0) (.inr ⟨rfl,by have:=HSG.out;omega⟩)
            rw [Int.zero_mul,show IntKind.u64.wrap 0 = 0 from rfl] at e2
            have e3:=xor_all (uw (a * 2 ^ k)) (uw_bd _)
            have e4:=xor_all (uw (a * 2 ^ k / 18446744073709551616)) (uw_bd _)
            have e5:IntKind.u64.wrap (18446744073709551615 - uw (a * 2 ^ k) + 1) = uw (-(a * 2 ^ k)):=by rw [wrap_u];exact neg128_lo _
            have h63:((k:Int) == 63) = true:=by simp;omega
            have hr:=r_add (a:=a) (b:=b) (k:=k) (X:=-(a * 2 ^ k)) (by obtain rfl:k = 63:=(by omega);rw [pb_last b hb,ht,Int.mul_sub,Int.one_mul];omega) (uw (-(a * 2 ^ k))) (uw (-(a * 2 ^ k) / 18446744073709551616)) rfl rfl
            clear ht hbit
            by_cases hz:uw (-(a * 2 ^ k)) = 0
            · have e6:IntKind.u64.wrap (18446744073709551615 - uw (a * 2 ^ k / 18446744073709551616) + 1) = uw (-(a * 2 ^ k) / 18446744073709551616):=by rw [wrap_u];exact neg128_1 _ hz
              have e7:(uw (-(a * 2 ^ k)) == 0) = true:=by rw [hz];rfl
              clear hz
              obtain ⟨g1,g2,g3⟩:=hr
              by_cases hc:rLo a b (k + 1) < rLo a b k
              · have g4:=g2 hc
                clear g2 g3
                go_wp2_with fail
                go_round
                case rel => exact ⟨k + 1,by omega,by go_num,rfl,rfl⟩
                case measure => simp [intOf];omega
              · have g4:=g3 hc
                clear g2 g3
                go_wp2_with fail
                go_round
                case rel => exact ⟨k + 1,by omega,by go_num,rfl,rfl⟩
                case measure => simp [intOf];omega
            · have e6:18446744073709551615 - uw (a * 2 ^ k / 18446744073709551616) = uw (-(a * 2 ^ k) / 18446744073709551616):=neg128_0 _ hz
              have e7:(uw (-(a * 2 ^ k)) == 0) = false:=by simpa using hz
              clear hz
              obtain ⟨g1,g2,g3⟩:=hr
              by_cases hc:rLo a b (k + 1) < rLo a b k
              · have g4:=g2 hc
                clear g2 g3
                go_wp2_with fail
                go_round
                case rel => exact ⟨k + 1,by omega,by go_num,rfl,rfl⟩
                case measure => simp [intOf];omega
              · have g4:=g3 hc
                clear g2 g3
                go_wp2_with fail
                go_round
                case rel => exact ⟨k + 1,by omega,by go_num,rfl,rfl⟩
                case measure => simp [intOf];omega
      · obtain rfl:k = 64:=by omega
        have hh:wrap64 (rHi a b 64) = prodHi a b:=by
          unfold rHi;rw [pb_64,wrap64_uw];exact wrap64_id (prodHi_bd ha hb).1 (prodHi_bd ha hb).2
        have hl:rLo a b 64 = prodLo a b:=by unfold rLo prodLo;rw [pb_64]
        have Hh:=Lib.hid hh;have Hl:=Lib.hid hl;clear hh hl
        rw [show (((64:Nat):Int)) = 64 from rfl]
        go_wp2_with fail
        go_ret2
        exact ⟨by rw [Hh.out,Hl.out];rfl,rfl⟩
def sHi (N:Int) (k:Nat):Int:=N / 2 ^ k / 18446744073709551616
def sLo (N:Int) (k:Nat):Int:=uw (N / 2 ^ k)
theorem half_step (N:Int) (k:Nat):N / 2 ^ (k + 1) = N / 2 ^ k / 2:=by
  rw [Int.pow_succ,← Int.ediv_ediv_of_nonneg]
  exact Int.le_of_lt (Int.pow_pos (by decide))
theorem sHi_step (N:Int) (k:Nat):sHi N (k + 1) = sHi N k / 2:=by unfold sHi;rw [half_step];omega
theorem or_comm64 (x y:Int):bits .or .u64 x y = bits .or .u64 y x:=by
  show IntKind.u64.wrap ((BitVec.ofInt 64 x ||| BitVec.ofInt 64 y).toNat:Int) = IntKind.u64.wrap ((BitVec.ofInt 64 y ||| BitVec.ofInt 64 x).toNat:Int)
  rw [BitVec.or_comm]
theorem sLo_step (N:Int) (k:Nat):bits .or .u64 (sLo N k / 2) (IntKind.u64.wrap (IntKind.u64.wrap (sHi N k) * 9223372036854775808)) = sLo N (k + 1):=by
  have h:=shift_or (sHi N k) (sLo N k) 1 (by omega) (uw_bd _)
  rw [or_comm64]
  simp only [Int.pow_one,show (64 - 1:Nat) = 63 from rfl,show (2:Int) ^ 63 = 9223372036854775808 from rfl] at h
  rw [h]
  unfold sLo sHi
  rw [half_step]
  unfold uw
  omega
theorem sHi_bd (N:Int) (k:Nat) (hN:-170141183460469231731687303715884105728 ≤ N ∧ N ≤ 170141183460469231731687303715884105727):-9223372036854775808 ≤ sHi N k ∧ sHi N k ≤ 9223372036854775807:=by
  induction k with
  | zero => unfold sHi;rw [Int.pow_zero];omega
  | succ k ih => rw [sHi_step];omega
set_option maxHeartbeats 1000000 in
theorem rshift_any (N:Int) (q:Nat) (w:World) (hq:q ≤ 62) (hN:-170141183460469231731687303715884105728 ≤ N ∧ N ≤ 170141183460469231731687303715884105727) :
    Calls Tryz.prog 163 #[.int .i64 (N / 18446744073709551616),.int .u64 (uw N),.int .i64 q] w fun e w' => e = .returned (.int .i64 (wrap64 (N / 2 ^ q))) ∧ w = w':=by
  have h0:N / 18446744073709551616 = sHi N 0 ∧ uw N = sLo N 0:=by unfold sHi sLo;rw [Int.pow_zero,Int.ediv_one];exact ⟨rfl,rfl⟩
  rw [h0.1,h0.2]
  have HN:=Lib.hid hN;clear h0 hN
  go_enter Tryz.func163,Tryz.ntmps163
  go_wp2_with fail
  go_loop [0,1,7] (fun h l i => ∃ k:Nat,k ≤ q ∧ i = .int .i64 k ∧ h = .int .i64 (sHi N k) ∧ l = .int .u64 (sLo N k)) (fun _ _ i => q - (intOf i).toNat)
  case atStart => exact ⟨0,Nat.zero_le _,rfl,rfl,rfl⟩
  case round =>
    obtain ⟨k,hk,rfl,rfl,rfl⟩:=hrel
    have hb:=sHi_bd N k HN.out
    by_cases hlt:k < q
    · have e1:=sLo_step N k
      have e2:=sHi_step N k
      have E2:=Lib.hid e2;clear e2
      go_wp2_with fail
      go_round
      case rel => exact ⟨k + 1,by omega,by go_num,by rw [E2.out],rfl⟩
      case measure => simp [intOf];omega
    · obtain rfl:k = q:=by omega
      have he:wrap64 (sLo N k) = wrap64 (N / 2 ^ k):=by unfold sLo;exact wrap64_uw _
      have He:=Lib.hid he;clear he
      go_wp2_with fail
      go_ret
      exact ⟨by rw [← He.out];rfl,rfl⟩
theorem refMul (a b q:Int) (w:World) (ha:-9223372036854775808 ≤ a ∧ a ≤ 9223372036854775807) (hb:-9223372036854775808 ≤ b ∧ b ≤ 9223372036854775807) :
    Calls Tryz.prog 128 #[.int .i64 a,.int .i64 b,.int .i64 q] w fun e w' => e = .returned (.int .i64 (mulQ a b q)) ∧ w = w':=by
  by_cases h1:q < 0
  · have hv:mulQ a b q = 0:=by unfold mulQ;rw [if_pos (.inl h1)]
    rw [hv];clear hv
    go_enter Tryz.func128,Tryz.ntmps128
    go_wp2_with fail
    go_ret
    exact ⟨rfl,rfl⟩
  · by_cases h2:62 < q
    · have hv:mulQ a b q = 0:=by unfold mulQ;rw [if_pos (.inr h2)]
      rw [hv];clear hv
      go_enter Tryz.func128,Tryz.ntmps128
      go_wp2_with fail
      go_ret
      exact ⟨rfl,rfl⟩
    · obtain ⟨Q,rfl⟩:=Int.eq_ofNat_of_zero_le (show 0 ≤ q by omega)
      have hv:mulQ a b Q = wrap64 (a * b / 2 ^ Q):=by unfold mulQ;rw [if_neg (by omega)];simp
      rw [hv]
      have hm:=mul_bd ha hb
      have hp:=rprod_any a b w ha hb
      have hs:=fun w' => rshift_any (a * b) Q w' (by omega) (by omega)
      have Hp:=Lib.hid hp;have Hs:=Lib.hid hs;clear hp hs hv hm
      go_enter Tryz.func128,Tryz.ntmps128
      go_wp2_with fail
      refine Hp.out.mono ?_
      rintro e w1 ⟨rfl,rfl⟩
      go_wp2_with fail
      refine (Hs.out _).mono ?_
      rintro e w2 ⟨rfl,rfl⟩
      go_wp2_with fail
      go_ret
      exact ⟨rfl,rfl⟩
end Go.Proofs.YtaccfnffmbndhaaGreat
namespace Go.Proofs.YtaccfnffmbndhaaGreat
open Go.RowKit
def wL (sz ps:List Int) (k:Nat):List Int:=upTo (szN sz (k + 1) * szN sz k) fun i => nth ps (cntN sz k + i)
def bL (sz ps:List Int) (k:Nat):List Int:=upTo (szN sz (k + 1)) fun i => nth ps (midN sz k + i)
theorem wL_len (sz ps:List Int) (k:Nat):(wL sz ps k).length = szN sz (k + 1) * szN sz k:=upTo_len _ _
theorem bL_len (sz ps:List Int) (k:Nat):(bL sz ps k).length = szN sz (k + 1):=upTo_len _ _
def LinkCs (w:World) (cs:List Value) (sz ps:List Int) (k:Nat):Prop:=∃ g o d B e,
  cs = [.int .i64 (szN sz (k + 1):Int),.int .i64 (szN sz k:Int),.slice (some ⟨g,o,none⟩) (szN sz (k + 1) * szN sz k) d,.slice B (szN sz (k + 1)) e] ∧ szN sz (k + 1) * szN sz k ≤ d ∧
  Rd w (some ⟨g,o,none⟩) (nums .i64 (wL sz ps k)) ∧ Rd w B (nums .i64 (bL sz ps k))
def NetAt (TS TN:TypeId) (w:World) (b:Nat) (sz ps:List Int) (q:Int):Prop:=∃ S Ap cp Al cl rows,
  w.heap[b]? = some (.cells #[.pointer (some ⟨S,0,none⟩),.slice Ap ps.length cp,.int .i64 q,.slice Al (sz.length - 1) cl] TN (0,0)) ∧
  ShapeAt TS w S sz ∧ Rd w Ap (nums .i64 ps) ∧ Rd w Al (List.flatten rows) ∧ rows.length = sz.length - 1 ∧ (∀ r ∈ rows,r.length = 4) ∧ ∀ j,j < sz.length - 1 → LinkCs w (rowOf rows j) sz ps j
theorem LinkCs.below {w w':World} {cs:List Value} {sz ps:List Int} {k:Nat} (h:LinkCs w cs sz ps k) (hb:Below w.heap.size w w'):LinkCs w' cs sz ps k:=by
  obtain ⟨g,o,d,B,e,h1,h2,h3,h4⟩:=h
  exact ⟨g,o,d,B,e,h1,h2,h3.below hb,h4.below hb⟩
theorem NetAt.below {TS TN:TypeId} {w w':World} {b:Nat} {sz ps:List Int} {q:Int} (h:NetAt TS TN w b sz ps q) (hb:Below w.heap.size w w'):NetAt TS TN w' b sz ps q:=by
  obtain ⟨S,Ap,cp,Al,cl,rows,h0,h1,h2,h3,h4,h5,h6⟩:=h
  exact ⟨S,Ap,cp,Al,cl,rows,(hb.block b (lt_of_block h0)).trans h0,h1.below hb,h2.below hb,h3.below hb,h4,h5,fun j hj => (h6 j hj).below hb⟩
theorem NetAt.lt {TS TN:TypeId} {w:World} {b:Nat} {sz ps:List Int} {q:Int} (h:NetAt TS TN w b sz ps q):b < w.heap.size:=by
  obtain ⟨S,Ap,cp,Al,cl,rows,h0,_⟩:=h
  exact lt_of_block h0
end Go.Proofs.YtaccfnffmbndhaaGreat
