/- The walks of package fixp. No condition. -/
import Derived.Test.YtaccfnffmbndhaaGreatProg
import Derived.Test.YtaccfnffmbndhaaGreatB01
import Derived.Test.YtaccfnffmbndhaaGreatB02
import Derived.KernelRfl
import Derived.BigQuiet
import Derived.Deep.QuietTactic
import Derived.Lib.Mul64
import Derived.Laws.Bits64b
set_option linter.unusedSimpArgs false
set_option linter.unusedVariables false
namespace Go.Proofs.YtaccfnffmbndhaaGreat
open Go.RowKit
theorem maskN (a:Nat) (ha:a < 18446744073709551616):bits .and .u64 (a:Int) 4294967295 = ((a % 4294967296:Nat):Int):=by
  have h:=bits_and_u64_nat a 4294967295 ha (by omega)
  have e:a &&& 4294967295 = a % 4294967296:=Nat.and_two_pow_sub_one_eq_mod a 32
  rw [e] at h
  exact h
theorem divN (a:Nat):(a:Int) / 4294967296 = ((a / 4294967296:Nat):Int):=by omega
theorem mulN (a b:Nat):(a:Int) * (b:Int) = ((a * b:Nat):Int):=(Int.natCast_mul a b).symm
theorem addN (a b:Nat):(a:Int) + (b:Int) = ((a + b:Nat):Int):=(Int.natCast_add a b).symm
theorem wrapN (a:Nat) (ha:a < 18446744073709551616):IntKind.u64.wrap (a:Int) = (a:Int):=by rw [IntKind.wrap_u64];omega
theorem wrapM (a:Nat):IntKind.u64.wrap (a:Int) = ((a % 18446744073709551616:Nat):Int):=by rw [IntKind.wrap_u64];omega
set_option maxHeartbeats 1000000 in
theorem mul64_any (x y:Nat) (hx:x < 18446744073709551616) (hy:y < 18446744073709551616) (w:World) :
    Calls Tryz.prog 228 #[.int .u64 x,.int .u64 y] w fun e w' => e = .returned (.tuple #[.int .u64 ((x * y / 18446744073709551616:Nat):Int),.int .u64 ((x * y % 18446744073709551616:Nat):Int)]) ∧ w = w':=by
  obtain ⟨bd,bt,bw,hhi⟩:=Lib.mul64_hi x y hx hy
  have ba:=Lib.half_mul_le (a:=x / 4294967296) (b:=y / 4294967296) (by omega) (by omega)
  have bb:=Lib.half_mul_le (a:=x / 4294967296) (b:=y % 4294967296) (by omega) (by omega)
  have bc:=Lib.half_mul_le (a:=x % 4294967296) (b:=y / 4294967296) (by omega) (by omega)
  have ba':x / 4294967296 * (y / 4294967296) < 18446744073709551616:=by omega
  have bb':x / 4294967296 * (y % 4294967296) < 18446744073709551616:=by omega
  have bc':x % 4294967296 * (y / 4294967296) < 18446744073709551616:=by omega
  have bh1:x / 4294967296 * (y / 4294967296) + (x / 4294967296 * (y % 4294967296) + x % 4294967296 * (y % 4294967296) / 4294967296) / 4294967296 < 18446744073709551616:=by omega
  have bh:x / 4294967296 * (y / 4294967296) + (x / 4294967296 * (y % 4294967296) + x % 4294967296 * (y % 4294967296) / 4294967296) / 4294967296 + ((x / 4294967296 * (y % 4294967296) + x % 4294967296 * (y % 4294967296) / 4294967296) % 4294967296 + x % 4294967296 * (y / 4294967296)) / 4294967296 < 18446744073709551616:=by omega
  go_enter Tryz.func228,Tryz.ntmps228
  go_wp2
  simp only [maskN x hx,maskN y hy,divN,mulN,addN,wrapN _ bd,wrapN _ bb',wrapN _ bt,maskN _ bt,wrapN _ bc',wrapN _ bw,wrapN _ ba',wrapN _ bh1,wrapN _ bh,wrapM (x * y)]
  rw [hhi]
  go_ret2
  exact ⟨rfl,rfl⟩
theorem relu_any (a:Int) (w:World):Calls Tryz.prog 216 #[.int .i64 a] w fun e w' => e = .returned (.int .i64 (max a 0)) ∧ w = w':=by
  go_enter Tryz.func216,Tryz.ntmps216
  go_wp2
  all_goals
    go_ret
    exact ⟨ret_int (by omega),rfl⟩
theorem gate_any (a g:Int) (w:World):Calls Tryz.prog 180 #[.int .i64 a,.int .i64 g] w fun e w' => e = .returned (.int .i64 (if 0 < a then g else 0)) ∧ w = w':=by
  by_cases h:a ≤ 0
  · rw [if_neg (by omega)]
    go_enter Tryz.func180,Tryz.ntmps180
    go_wp2
    go_ret
    exact ⟨rfl,rfl⟩
  · rw [if_pos (by omega)]
    go_enter Tryz.func180,Tryz.ntmps180
    go_wp2
    go_ret
    exact ⟨rfl,rfl⟩
theorem sub_any (a b:Int) (w:World):Calls Tryz.prog 197 #[.int .i64 a,.int .i64 b] w fun e w' => e = .returned (.int .i64 (wrap64 (a - b))) ∧ w = w':=by
  go_enter Tryz.func197,Tryz.ntmps197
  go_wp2
  go_ret
  exact ⟨rfl,rfl⟩
theorem shift_or (hi lo:Int) (q:Nat) (hq:q ≤ 63) (h2:0 ≤ lo ∧ lo < 18446744073709551616) :
    bits .or .u64 (IntKind.u64.wrap (IntKind.u64.wrap hi * 2 ^ (64 - q))) (lo / 2 ^ q) = (uw hi % 2 ^ q) * 2 ^ (64 - q) + lo / 2 ^ q:=by
  obtain ⟨H,hH,_⟩:=uw_nat hi
  obtain ⟨L,rfl⟩:=Int.eq_ofNat_of_zero_le h2.1
  have hM:(18446744073709551616:Nat) = 2 ^ (64 - q) * 2 ^ q:=by rw [← Nat.pow_add,show 64 - q + q = 64 by omega]
  have hw:IntKind.u64.wrap hi = uw hi:=by rw [IntKind.wrap_u64];rfl
  have hx:IntKind.u64.wrap (uw hi * 2 ^ (64 - q)) = ((2 ^ (64 - q) * (H % 2 ^ q):Nat):Int):=by
    rw [IntKind.wrap_u64,hH]
    have:((H * 2 ^ (64 - q):Nat):Int) % ((18446744073709551616:Nat):Int) = ((2 ^ (64 - q) * (H % 2 ^ q):Nat):Int):=by
      rw [← Int.natCast_emod,Nat.mul_comm H,hM,Nat.mul_mod_mul_left]
    simpa using this
  have hy:((L:Int) / 2 ^ q) = ((L / 2 ^ q:Nat):Int):=by simp
  have hpq:0 < 2 ^ q:=Nat.pow_pos (by decide)
  have b1:L / 2 ^ q < 2 ^ (64 - q):=by
    rw [Nat.div_lt_iff_lt_mul hpq]
    have:=h2.2
    omega
  have b2:2 ^ (64 - q) * (H % 2 ^ q) < 18446744073709551616:=by
    rw [hM]
    exact Nat.mul_lt_mul_of_pos_left (Nat.mod_lt _ hpq) (Nat.pow_pos (by decide))
  have b3:L / 2 ^ q < 18446744073709551616:=Nat.lt_of_le_of_lt (Nat.div_le_self _ _) (by omega)
  rw [hw,hx,hy,bits_or_u64_nat _ _ b2 b3,← Nat.two_pow_add_eq_or_of_lt b1,hH,Int.natCast_add,Int.natCast_mul,Int.mul_comm]
  simp
theorem shift_val (hi lo:Int) (q:Nat) (hq:q ≤ 63) (h2:0 ≤ lo ∧ lo < 18446744073709551616) :
    wrap64 (bits .or .u64 (IntKind.u64.wrap (IntKind.u64.wrap hi * 2 ^ (64 - q))) (lo / 2 ^ q)) = wrap64 (hi * 2 ^ (64 - q) + lo / 2 ^ q):=by
  rw [shift_or hi lo q hq h2]
  have hM:(18446744073709551616:Int) = 2 ^ (64 - q) * 2 ^ q:=by rw [← Int.pow_add,show 64 - q + q = 64 by omega];rfl
  obtain ⟨k,hk⟩:∃ k:Int,uw hi = hi + k * 18446744073709551616:=⟨-(hi / 18446744073709551616),by unfold uw;omega⟩
  have hd:=Int.emod_add_mul_ediv (uw hi) (2 ^ q)
  refine wrap64_eq ⟨k * 2 ^ (64 - q) - uw hi / 2 ^ q,?_⟩
  have e:uw hi % 2 ^ q = hi + k * 18446744073709551616 - 2 ^ q * (uw hi / 2 ^ q):=by omega
  rw [e,Int.sub_mul,Int.add_mul,Int.sub_mul]
  have e2:2 ^ q * (uw hi / 2 ^ q) * 2 ^ (64 - q) = (uw hi / 2 ^ q) * 18446744073709551616:=by
    rw [hM,Int.mul_comm (2 ^ q:Int),Int.mul_assoc,Int.mul_comm (2 ^ q:Int)]
  have e3:k * 18446744073709551616 * 2 ^ (64 - q) = k * 2 ^ (64 - q) * 18446744073709551616:=by rw [Int.mul_assoc,Int.mul_comm 18446744073709551616,← Int.mul_assoc]
  rw [e2,e3]
  omega
def prodK (a b:Int):Nat → Int
  | 0 => wrap64 (uw a * uw b / 18446744073709551616)
  | 1 => if a < 0 then wrap64 (wrap64 (uw a * uw b / 18446744073709551616) - b) else wrap64 (uw a * uw b / 18446744073709551616)
  | _ => prodHi a b
theorem prodK_2 (a b:Int) (ha:-9223372036854775808 ≤ a ∧ a ≤ 9223372036854775807) (hb:-9223372036854775808 ≤ b ∧ b ≤ 9223372036854775807):prodHi a b = if b < 0 then wrap64 (prodK a b 1 - a) else prodK a b 1:=by
  rw [← words_hi a b ha hb]
  unfold prodK
  by_cases h1:a < 0
  · by_cases h2:b < 0
    · simp only [h1,h2,if_true,wrap64_sub]
    · simp only [h1,h2,if_true,if_false,wrap64_sub,Int.sub_zero]
  · by_cases h2:b < 0
    · simp only [h1,h2,if_true,if_false,wrap64_sub,Int.sub_zero]
    · simp only [h1,h2,if_false,Int.sub_zero]
set_option maxHeartbeats 1000000 in
theorem prod_any (a b:Int) (w:World) (ha:-9223372036854775808 ≤ a ∧ a ≤ 9223372036854775807) (hb:-9223372036854775808 ≤ b ∧ b ≤ 9223372036854775807) :
    Calls Tryz.prog 219 #[.int .i64 a,.int .i64 b] w fun e w' => e = .returned (.tuple #[.int .i64 (prodHi a b),.int .u64 (prodLo a b)]) ∧ Below w.heap.size w w':=by
  obtain ⟨X,hX,hX2⟩:=uw_nat a
  obtain ⟨Y,hY,hY2⟩:=uw_nat b
  have eX:IntKind.u64.wrap a = (X:Int):=by rw [IntKind.wrap_u64,← hX];rfl
  have eY:IntKind.u64.wrap b = (Y:Int):=by rw [IntKind.wrap_u64,← hY];rfl
  have hK0:wrap64 ((X * Y / 18446744073709551616:Nat):Int) = prodK a b 0:=by unfold prodK;rw [hX,hY];simp
  have hlo:((X * Y % 18446744073709551616:Nat):Int) = prodLo a b:=by rw [← words_lo a b ha hb,hX,hY];unfold uw;simp
  have hm:=mul64_any X Y hX2 hY2 w
  rw [hlo] at hm
  obtain ⟨h,hh⟩:∃ h:Int,((X * Y / 18446744073709551616:Nat):Int) = h:=⟨_,rfl⟩
  rw [hh] at hm hK0
  have i0:∀ w,(Instr.index 342 (.agg #[.int .i64 a,.int .i64 b,.int .i64 b,.int .i64 a]) (.int .i64 0)).run Tryz.prog w = .ok (.agg #[.int .i64 a,.int .i64 b]) w:=fun w => by kernel_rfl
  have i1:∀ w,(Instr.index 342 (.agg #[.int .i64 a,.int .i64 b,.int .i64 b,.int .i64 a]) (.int .i64 1)).run Tryz.prog w = .ok (.agg #[.int .i64 b,.int .i64 a]) w:=fun w => by kernel_rfl
  have Hm:=Lib.hid hm;have EX:=Lib.hid eX;have EY:=Lib.hid eY;have HK0:=Lib.hid hK0;have I0:=Lib.hid i0;have I1:=Lib.hid i1
  clear hm eX eY hK0 hlo hX hY hh i0 i1
  go_enter Tryz.func219,Tryz.ntmps219
  go_wp2_with fail
  rw [EX.out,EY.out]
  refine Hm.out.mono ?_
  rintro e w1 ⟨rfl,rfl⟩
  go_wp2_with fail
  rw [HK0.out]
  go_loopw [4,26] (fun s i wr => ∃ k:Nat,k ≤ 2 ∧ i = .int .i64 k ∧ s = .int .i64 (prodK a b k) ∧ Below w.heap.size w wr) (fun _ i _ => 2 - (intOf i).toNat)
  case atStart => exact ⟨0,by omega,rfl,rfl,Below.refl _ _⟩
  case round =>
    obtain ⟨k,hk,rfl,rfl,hW⟩:=hrel
    have HW:=Lib.hid (hW.trans ((Below.refl _ _).alloc hW.size (.cells #[.int .i64 a,.int .i64 b] 341)))
    have HW2:=Lib.hid (hW.trans ((Below.refl _ _).alloc hW.size (.cells #[.int .i64 b,.int .i64 a] 341)))
    rcases (show k = 0 ∨ k = 1 ∨ k = 2 by omega) with rfl | rfl | rfl
    · rw [show (((0:Nat):Int)) = 0 from rfl]
      have i0:=I0.out
      by_cases h:a < 0
      · have he:wrap64 (prodK a b 0 - b) = prodK a b 1:=by simp only [prodK,h,if_true]
        have He:=Lib.hid he;clear he hW hk
        go_wp2_with fail
        rw [He.out]
        go_roundw
        case rel => exact ⟨1,by omega,rfl,rfl,HW.out⟩
        case measure => simp [intOf]
      · have he:prodK a b 0 = prodK a b 1:=by simp only [prodK,h,if_false]
        have He:=Lib.hid he;clear he hW hk
        go_wp2_with fail
        rw [He.out]
        go_roundw
        case rel => exact ⟨1,by omega,rfl,rfl,HW.out⟩
        case measure => simp [intOf]
    · rw [show (((1:Nat):Int)) = 1 from rfl]
      have i1:=I1.out
      by_cases h:b < 0
      · have he:wrap64 (prodK a b 1 - a) = prodK a b 2:=by rw [show prodK a b 2 = prodHi a b from rfl,prodK_2 a b ha hb,if_pos h]
        have He:=Lib.hid he;clear he hW hk
        go_wp2_with fail
        rw [He.out]
        go_roundw
        case rel => exact ⟨2,by omega,rfl,rfl,HW2.out⟩
        case measure => simp [intOf]
      · have he:prodK a b 1 = prodK a b 2:=by rw [show prodK a b 2 = prodHi a b from rfl,prodK_2 a b ha hb,if_neg h]
        have He:=Lib.hid he;clear he hW hk
        go_wp2_with fail
        rw [He.out]
        go_roundw
        case rel => exact ⟨2,by omega,rfl,rfl,HW2.out⟩
        case measure => simp [intOf]
    · rw [show (((2:Nat):Int)) = 2 from rfl]
      have HW3:=Lib.hid hW;clear hW hk
      go_wp2_with fail
      go_ret2
      exact ⟨rfl,HW3.out⟩
set_option maxHeartbeats 1000000 in
theorem shift_any (hi lo:Int) (q:Nat) (w:World) (hq:q ≤ 62) (h1:-9223372036854775808 ≤ hi ∧ hi ≤ 9223372036854775807) (h2:0 ≤ lo ∧ lo < 18446744073709551616) :
    Calls Tryz.prog 220 #[.int .i64 hi,.int .u64 lo,.int .i64 q] w fun e w' => e = .returned (.int .i64 (wrap64 (hi * 2 ^ (64 - q) + lo / 2 ^ q))) ∧ ∃ n,w' = w.drewN n:=by
  have hv:=shift_val hi lo q (by omega) h2
  have Hv:=Lib.hid hv;clear hv
  go_enter Tryz.func220,Tryz.ntmps220
  go_wp2_with fail
  go_quiet (fail)
  rw [Hv.out]
  go_wp2
  go_ret
  exact ⟨rfl,_,rfl⟩
theorem mulQ_in (a b:Int) (q:Nat) (hq:q ≤ 62):mulQ a b q = wrap64 (prodHi a b * 2 ^ (64 - q) + prodLo a b / 2 ^ q):=by
  rw [shift_eq a b q hq]
  unfold mulQ
  rw [if_neg (by omega)]
  simp
theorem fixMul (a b q:Int) (w:World) (ha:-9223372036854775808 ≤ a ∧ a ≤ 9223372036854775807) (hb:-9223372036854775808 ≤ b ∧ b ≤ 9223372036854775807) :
    Calls Tryz.prog 200 #[.int .i64 a,.int .i64 b,.int .i64 q] w fun e w' => e = .returned (.int .i64 (mulQ a b q)) ∧ Below w.heap.size w w':=by
  by_cases h1:q < 0
  · have hv:mulQ a b q = 0:=by unfold mulQ;rw [if_pos (.inl h1)]
    rw [hv];clear hv
    go_enter Tryz.func200,Tryz.ntmps200
    go_wp2_with fail
    go_ret
    exact ⟨rfl,Below.refl _ _⟩
  · by_cases h2:62 < q
    · have hv:mulQ a b q = 0:=by unfold mulQ;rw [if_pos (.inr h2)]
      rw [hv];clear hv
      go_enter Tryz.func200,Tryz.ntmps200
      go_wp2_with fail
      go_ret
      exact ⟨rfl,Below.refl _ _⟩
    · obtain ⟨Q,rfl⟩:=Int.eq_ofNat_of_zero_le (show 0 ≤ q by omega)
      have hv:=mulQ_in a b Q (by omega)
      rw [hv]
      have hp:=prod_any a b w ha hb
      have hs:=fun w' => shift_any (prodHi a b) (prodLo a b) Q w' (by omega) (prodHi_bd ha hb) (uw_bd _)
      have Hp:=Lib.hid hp;have Hs:=Lib.hid hs;clear hp hs hv
      go_enter Tryz.func200,Tryz.ntmps200
      go_wp2_with fail
      refine Hp.out.mono ?_
      rintro e w1 ⟨rfl,hb1⟩
      have HB:=Lib.hid hb1;clear hb1
      go_wp2_with fail
      refine (Hs.out _).mono ?_
      rintro e w2 ⟨rfl,n,rfl⟩
      go_wp2_with fail
      go_ret
      exact ⟨rfl,below_drewN HB.out _⟩
end Go.Proofs.YtaccfnffmbndhaaGreat
