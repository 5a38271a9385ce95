/- The walks of package fixp. The walks of sakiaref01. A network in plain lists: its weights and biases, its values, its gradient; and in memory. The walks of package vec. The walks of package mat: the small functions. Loops over iterators: what serves each of them. The iterator over the rows of a matrix. Loops over iterators: what a round that appends keeps. Matrix.Mul. The values of a network, layer by layer, in plain lists. The walks of sakiaref09: the small functions. The closure of Net.Trace: one vector more. The walks of package shape: what is asked of a shape. No condition. -/
import Derived.Test.YthamijnggdjaoaaGreatDoorProg
import Derived.Test.YthamijnggdjaoaaGreatDoorT01
import Derived.KernelRfl
import Derived.BigQuiet
import Derived.Deep.QuietTactic
import Derived.Lib.Mul64
import Derived.Laws.Bits64b
import Derived.WalkSpells
import Derived.Deep.RegionHeld3
import Derived.StillTailTactics
import Derived.Maps.AppendAt
import Derived.RangeFuncNested
import Derived.RangeFuncBound
import Derived.RangeFuncCalls
import Derived.RangeFuncLeaves
import Derived.RangeFuncBox
import Derived.Shelf.Abstract
import Derived.WalkKit
import Derived.OwnWalkIn
import Derived.TacticsInMore
import Derived.LoopNIn
import Derived.LoopIn
set_option linter.unusedSimpArgs false
set_option linter.unusedVariables false
namespace Go.Proofs.YthamijnggdjaoaaGreatDoor
open Go.RowKit
theorem maskN (a:Nat) (ha:a < 18446744073709551616):bits .and .u64 (a:Int) 4294967295 = ((a % 4294967296:Nat):Int):=by
  have h:=bits_and_u64_nat a 4294967295 ha (by omega)
  have e:a &&& 4294967295 = a % 4294967296:=Nat.and_two_pow_sub_one_eq_mod a 32
  rw [e] at h
  exact h
theorem divN (a:Nat):(a:Int) / 4294967296 = ((a / 4294967296:Nat):Int):=by omega
theorem mulN (a b:Nat):(a:Int) * (b:Int) = ((a * b:Nat):Int):=(Int.natCast_mul a b).symm
theorem addN (a b:Nat):(a:Int) + (b:Int) = ((a + b:Nat):Int):=(Int.natCast_add a b).symm
theorem wrapN (a:Nat) (ha:a < 18446744073709551616):IntKind.u64.wrap (a:Int) = (a:Int):=by rw [IntKind.wrap_u64];omega
theorem wrapM (a:Nat):IntKind.u64.wrap (a:Int) = ((a % 18446744073709551616:Nat):Int):=by rw [IntKind.wrap_u64];omega
set_option maxHeartbeats 1000000 in
theorem mul64_any (x y:Nat) (hx:x < 18446744073709551616) (hy:y < 18446744073709551616) (w:World) :
    Calls Tryz.prog 87 #[.int .u64 x,.int .u64 y] w fun e w' => e = .returned (.tuple #[.int .u64 ((x * y / 18446744073709551616:Nat):Int),.int .u64 ((x * y % 18446744073709551616:Nat):Int)]) ∧ w = w':=by
  obtain ⟨bd,bt,bw,hhi⟩:=Lib.mul64_hi x y hx hy
  have ba:=Lib.half_mul_le (a:=x / 4294967296) (b:=y / 4294967296) (by omega) (by omega)
  have bb:=Lib.half_mul_le (a:=x / 4294967296) (b:=y % 4294967296) (by omega) (by omega)
  have bc:=Lib.half_mul_le (a:=x % 4294967296) (b:=y / 4294967296) (by omega) (by omega)
  have ba':x / 4294967296 * (y / 4294967296) < 18446744073709551616:=by omega
  have bb':x / 4294967296 * (y % 4294967296) < 18446744073709551616:=by omega
  have bc':x % 4294967296 * (y / 4294967296) < 18446744073709551616:=by omega
  have bh1:x / 4294967296 * (y / 4294967296) + (x / 4294967296 * (y % 4294967296) + x % 4294967296 * (y % 4294967296) / 4294967296) / 4294967296 < 18446744073709551616:=by omega
  have bh:x / 4294967296 * (y / 4294967296) + (x / 4294967296 * (y % 4294967296) + x % 4294967296 * (y % 4294967296) / 4294967296) / 4294967296 + ((x / 4294967296 * (y % 4294967296) + x % 4294967296 * (y % 4294967296) / 4294967296) % 4294967296 + x % 4294967296 * (y / 4294967296)) / 4294967296 < 18446744073709551616:=by omega
  go_enter Tryz.func87,Tryz.ntmps87
  go_wp2
  simp only [maskN x hx,maskN y hy,divN,mulN,addN,wrapN _ bd,wrapN _ bb',wrapN _ bt,maskN _ bt,wrapN _ bc',wrapN _ bw,wrapN _ ba',wrapN _ bh1,wrapN _ bh,wrapM (x * y)]
  rw [hhi]
  go_ret2
  exact ⟨rfl,rfl⟩
theorem relu_any (a:Int) (w:World):Calls Tryz.prog 157 #[.int .i64 a] w fun e w' => e = .returned (.int .i64 (max a 0)) ∧ w = w':=by
  go_enter Tryz.func157,Tryz.ntmps157
  go_wp2
  all_goals
    go_ret
    exact ⟨ret_int (by omega),rfl⟩
theorem gate_any (a g:Int) (w:World):Calls Tryz.prog 259 #[.int .i64 a,.int .i64 g] w fun e w' => e = .returned (.int .i64 (if 0 < a then g else 0)) ∧ w = w':=by
  by_cases h:a ≤ 0
  · rw [if_neg (by omega)]
    go_enter Tryz.func259,Tryz.ntmps259
    go_wp2
    go_ret
    exact ⟨rfl,rfl⟩
  · rw [if_pos (by omega)]
    go_enter Tryz.func259,Tryz.ntmps259
    go_wp2
    go_ret
    exact ⟨rfl,rfl⟩
theorem sub_any (a b:Int) (w:World):Calls Tryz.prog 114 #[.int .i64 a,.int .i64 b] w fun e w' => e = .returned (.int .i64 (wrap64 (a - b))) ∧ w = w':=by
  go_enter Tryz.func114,Tryz.ntmps114
  go_wp2
  go_ret
  exact ⟨rfl,rfl⟩
theorem shift_or (hi lo:Int) (q:Nat) (hq:q ≤ 63) (h2:0 ≤ lo ∧ lo < 18446744073709551616) :
    bits .or .u64 (IntKind.u64.wrap (IntKind.u64.wrap hi * 2 ^ (64 - q))) (lo / 2 ^ q) = (uw hi % 2 ^ q) * 2 ^ (64 - q) + lo / 2 ^ q:=by
  obtain ⟨H,hH,_⟩:=uw_nat hi
  obtain ⟨L,rfl⟩:=Int.eq_ofNat_of_zero_le h2.1
  have hM:(18446744073709551616:Nat) = 2 ^ (64 - q) * 2 ^ q:=by rw [← Nat.pow_add,show 64 - q + q = 64 by omega]
  have hw:IntKind.u64.wrap hi = uw hi:=by rw [IntKind.wrap_u64];rfl
  have hx:IntKind.u64.wrap (uw hi * 2 ^ (64 - q)) = ((2 ^ (64 - q) * (H % 2 ^ q):Nat):Int):=by
    rw [IntKind.wrap_u64,hH]
    have:((H * 2 ^ (64 - q):Nat):Int) % ((18446744073709551616:Nat):Int) = ((2 ^ (64 - q) * (H % 2 ^ q):Nat):Int):=by
      rw [← Int.natCast_emod,Nat.mul_comm H,hM,Nat.mul_mod_mul_left]
    simpa using this
  have hy:((L:Int) / 2 ^ q) = ((L / 2 ^ q:Nat):Int):=by simp
  have hpq:0 < 2 ^ q:=Nat.pow_pos (by decide)
  have b1:L / 2 ^ q < 2 ^ (64 - q):=by
    rw [Nat.div_lt_iff_lt_mul hpq]
    have:=h2.2
    omega
  have b2:2 ^ (64 - q) * (H % 2 ^ q) < 18446744073709551616:=by
    rw [hM]
    exact Nat.mul_lt_mul_of_pos_left (Nat.mod_lt _ hpq) (Nat.pow_pos (by decide))
  have b3:L / 2 ^ q < 18446744073709551616:=Nat.lt_of_le_of_lt (Nat.div_le_self _ _) (by omega)
  rw [hw,hx,hy,bits_or_u64_nat _ _ b2 b3,← Nat.two_pow_add_eq_or_of_lt b1,hH,Int.natCast_add,Int.natCast_mul,Int.mul_comm]
  simp
theorem shift_val (hi lo:Int) (q:Nat) (hq:q ≤ 63) (h2:0 ≤ lo ∧ lo < 18446744073709551616) :
    wrap64 (bits .or .u64 (IntKind.u64.wrap (IntKind.u64.wrap hi * 2 ^ (64 - q))) (lo / 2 ^ q)) = wrap64 (hi * 2 ^ (64 - q) + lo / 2 ^ q):=by
  rw [shift_or hi lo q hq h2]
  have hM:(18446744073709551616:Int) = 2 ^ (64 - q) * 2 ^ q:=by rw [← Int.pow_add,show 64 - q + q = 64 by omega];rfl
  obtain ⟨k,hk⟩:∃ k:Int,uw hi = hi + k * 18446744073709551616:=⟨-(hi / 18446744073709551616),by unfold uw;omega⟩
  have hd:=Int.emod_add_mul_ediv (uw hi) (2 ^ q)
  refine wrap64_eq ⟨k * 2 ^ (64 - q) - uw hi / 2 ^ q,?_⟩
  have e:uw hi % 2 ^ q = hi + k * 18446744073709551616 - 2 ^ q * (uw hi / 2 ^ q):=by omega
  rw [e,Int.sub_mul,Int.add_mul,Int.sub_mul]
  have e2:2 ^ q * (uw hi / 2 ^ q) * 2 ^ (64 - q) = (uw hi / 2 ^ q) * 18446744073709551616:=by
    rw [hM,Int.mul_comm (2 ^ q:Int),Int.mul_assoc,Int.mul_comm (2 ^ q:Int)]
  have e3:k * 18446744073709551616 * 2 ^ (64 - q) = k * 2 ^ (64 - q) * 18446744073709551616:=by rw [Int.mul_assoc,Int.mul_comm 18446744073709551616,← Int.mul_assoc]
  rw [e2,e3]
  omega
def prodK (a b:Int):Nat → Int
  | 0 => wrap64 (uw a * uw b / 18446744073709551616)
  | 1 => if a < 0 then wrap64 (wrap64 (uw a * uw b / 18446744073709551616) - b) else wrap64 (uw a * uw b / 18446744073709551616)
  | _ => prodHi a b
theorem prodK_2 (a b:Int) (ha:-9223372036854775808 ≤ a ∧ a ≤ 9223372036854775807) (hb:-9223372036854775808 ≤ b ∧ b ≤ 9223372036854775807):prodHi a b = if b < 0 then wrap64 (prodK a b 1 - a) else prodK a b 1:=by
  rw [← words_hi a b ha hb]
  unfold prodK
  by_cases h1:a < 0
  · by_cases h2:b < 0
    · simp only [h1,h2,if_true,wrap64_sub]
    · simp only [h1,h2,if_true,if_false,wrap64_sub,Int.sub_zero]
  · by_cases h2:b < 0
    · simp only [h1,h2,if_true,if_false,wrap64_sub,Int.sub_zero]
    · simp only [h1,h2,if_false,Int.sub_zero]
set_option maxHeartbeats 1000000 in
theorem prod_any (a b:Int) (w:World) (ha:-9223372036854775808 ≤ a ∧ a ≤ 9223372036854775807) (hb:-9223372036854775808 ≤ b ∧ b ≤ 9223372036854775807) :
    Calls Tryz.prog 158 #[.int .i64 a,.int .i64 b] w fun e w' => e = .returned (.tuple #[.int .i64 (prodHi a b),.int .u64 (prodLo a b)]) ∧ Below w.heap.size w w':=by
  obtain ⟨X,hX,hX2⟩:=uw_nat a
  obtain ⟨Y,hY,hY2⟩:=uw_nat b
  have eX:IntKind.u64.wrap a = (X:Int):=by rw [IntKind.wrap_u64,← hX];rfl
  have eY:IntKind.u64.wrap b = (Y:Int):=by rw [IntKind.wrap_u64,← hY];rfl
  have hK0:wrap64 ((X * Y / 18446744073709551616:Nat):Int) = prodK a b 0:=by unfold prodK;rw [hX,hY];simp
  have hlo:((X * Y % 18446744073709551616:Nat):Int) = prodLo a b:=by rw [← words_lo a b ha hb,hX,hY];unfold uw;simp
  have hm:=mul64_any X Y hX2 hY2 w
  rw [hlo] at hm
  obtain ⟨h,hh⟩:∃ h:Int,((X * Y / 18446744073709551616:Nat):Int) = h:=⟨_,rfl⟩
  rw [hh] at hm hK0
  have i0:∀ w,(Instr.index 344 (.agg #[.int .i64 a,.int .i64 b,.int .i64 b,.int .i64 a]) (.int .i64 0)).run Tryz.prog w = .ok (.agg #[.int .i64 a,.int .i64 b]) w:=fun w => by kernel_rfl
  have i1:∀ w,(Instr.index 344 (.agg #[.int .i64 a,.int .i64 b,.int .i64 b,.int .i64 a]) (.int .i64 1)).run Tryz.prog w = .ok (.agg #[.int .i64 b,.int .i64 a]) w:=fun w => by kernel_rfl
  have Hm:=Lib.hid hm;have EX:=Lib.hid eX;have EY:=Lib.hid eY;have HK0:=Lib.hid hK0;have I0:=Lib.hid i0;have I1:=Lib.hid i1
  clear hm eX eY hK0 hlo hX hY hh i0 i1
  go_enter Tryz.func158,Tryz.ntmps158
  go_wp2_with fail
  rw [EX.out,EY.out]
  refine Hm.out.mono ?_
  rintro e w1 ⟨rfl,rfl⟩
  go_wp2_with fail
  rw [HK0.out]
  go_loopw [4,26] (fun s i wr => ∃ k:Nat,k ≤ 2 ∧ i = .int .i64 k ∧ s = .int .i64 (prodK a b k) ∧ Below w.heap.size w wr) (fun _ i _ => 2 - (intOf i).toNat)
  case atStart => exact ⟨0,by omega,rfl,rfl,Below.refl _ _⟩
  case round =>
    obtain ⟨k,hk,rfl,rfl,hW⟩:=hrel
    have HW:=Lib.hid (hW.trans ((Below.refl _ _).alloc hW.size (.cells #[.int .i64 a,.int .i64 b] 343)))
    have HW2:=Lib.hid (hW.trans ((Below.refl _ _).alloc hW.size (.cells #[.int .i64 b,.int .i64 a] 343)))
    rcases (show k = 0 ∨ k = 1 ∨ k = 2 by omega) with rfl | rfl | rfl
    · rw [show (((0:Nat):Int)) = 0 from rfl]
      have i0:=I0.out
      by_cases h:a < 0
      · have he:wrap64 (prodK a b 0 - b) = prodK a b 1:=by simp only [prodK,h,if_true]
        have He:=Lib.hid he;clear he hW hk
        go_wp2_with fail
        rw [He.out]
        go_roundw
        case rel => exact ⟨1,by omega,rfl,rfl,HW.out⟩
        case measure => simp [intOf]
      · have he:prodK a b 0 = prodK a b 1:=by simp only [prodK,h,if_false]
        have He:=Lib.hid he;clear he hW hk
        go_wp2_with fail
        rw [He.out]
        go_roundw
        case rel => exact ⟨1,by omega,rfl,rfl,HW.out⟩
        case measure => simp [intOf]
    · rw [show (((1:Nat):Int)) = 1 from rfl]
      have i1:=I1.out
      by_cases h:b < 0
      · have he:wrap64 (prodK a b 1 - a) = prodK a b 2:=by rw [show prodK a b 2 = prodHi a b from rfl,prodK_2 a b ha hb,if_pos h]
        have He:=Lib.hid he;clear he hW hk
        go_wp2_with fail
        rw [He.out]
        go_roundw
        case rel => exact ⟨2,by omega,rfl,rfl,HW2.out⟩
        case measure => simp [intOf]
      · have he:prodK a b 1 = prodK a b 2:=by rw [show prodK a b 2 = prodHi a b from rfl,prodK_2 a b ha hb,if_neg h]
        have He:=Lib.hid he;clear he hW hk
        go_wp2_with fail
        rw [He.out]
        go_roundw
        case rel => exact ⟨2,by omega,rfl,rfl,HW2.out⟩
        case measure => simp [intOf]
    · rw [show (((2:Nat):Int)) = 2 from rfl]
      have HW3:=Lib.hid hW;clear hW hk
      go_wp2_with fail
      go_ret2
      exact ⟨rfl,HW3.out⟩
set_option maxHeartbeats 1000000 in
theorem shift_any (hi lo:Int) (q:Nat) (w:World) (hq:q ≤ 62) (h1:-9223372036854775808 ≤ hi ∧ hi ≤ 9223372036854775807) (h2:0 ≤ lo ∧ lo < 18446744073709551616) :
    Calls Tryz.prog 159 #[.int .i64 hi,.int .u64 lo,.int .i64 q] w fun e w' => e = .returned (.int .i64 (wrap64 (hi * 2 ^ (64 - q) + lo / 2 ^ q))) ∧ ∃ n,w' = w.drewN n:=by
  have hv:=shift_val hi lo q (by omega) h2
  have Hv:=Lib.hid hv;clear hv
  go_enter Tryz.func159,Tryz.ntmps159
  go_wp2_with fail
  go_quiet (fail)
  rw [Hv.out]
  go_wp2
  go_ret
  exact ⟨rfl,_,rfl⟩
theorem mulQ_in (a b:Int) (q:Nat) (hq:q ≤ 62):mulQ a b q = wrap64 (prodHi a b * 2 ^ (64 - q) + prodLo a b / 2 ^ q):=by
  rw [shift_eq a b q hq]
  unfold mulQ
  rw [if_neg (by omega)]
  simp
theorem fixMul (a b q:Int) (w:World) (ha:-9223372036854775808 ≤ a ∧ a ≤ 9223372036854775807) (hb:-9223372036854775808 ≤ b ∧ b ≤ 9223372036854775807) :
    Calls Tryz.prog 115 #[.int .i64 a,.int .i64 b,.int .i64 q] w fun e w' => e = .returned (.int .i64 (mulQ a b q)) ∧ Below w.heap.size w w':=by
  by_cases h1:q < 0
  · have hv:mulQ a b q = 0:=by unfold mulQ;rw [if_pos (.inl h1)]
    rw [hv];clear hv
    go_enter Tryz.func115,Tryz.ntmps115
    go_wp2_with fail
    go_ret
    exact ⟨rfl,Below.refl _ _⟩
  · by_cases h2:62 < q
    · have hv:mulQ a b q = 0:=by unfold mulQ;rw [if_pos (.inr h2)]
      rw [hv];clear hv
      go_enter Tryz.func115,Tryz.ntmps115
      go_wp2_with fail
      go_ret
      exact ⟨rfl,Below.refl _ _⟩
    · obtain ⟨Q,rfl⟩:=Int.eq_ofNat_of_zero_le (show 0 ≤ q by omega)
      have hv:=mulQ_in a b Q (by omega)
      rw [hv]
      have hp:=prod_any a b w ha hb
      have hs:=fun w' => shift_any (prodHi a b) (prodLo a b) Q w' (by omega) (prodHi_bd ha hb) (uw_bd _)
      have Hp:=Lib.hid hp;have Hs:=Lib.hid hs;clear hp hs hv
      go_enter Tryz.func115,Tryz.ntmps115
      go_wp2_with fail
      refine Hp.out.mono ?_
      rintro e w1 ⟨rfl,hb1⟩
      have HB:=Lib.hid hb1;clear hb1
      go_wp2_with fail
      refine (Hs.out _).mono ?_
      rintro e w2 ⟨rfl,n,rfl⟩
      go_wp2_with fail
      go_ret
      exact ⟨rfl,below_drewN HB.out _⟩
end Go.Proofs.YthamijnggdjaoaaGreatDoor
namespace Go.Proofs.YthamijnggdjaoaaGreatDoor
open Go.RowKit
theorem rgate_any (a g:Int) (w:World):Calls Tryz.prog 166 #[.int .i64 a,.int .i64 g] w fun e w' => e = .returned (.int .i64 (if 0 < a then g else 0)) ∧ w = w':=by
  by_cases h:0 < a
  · rw [if_pos h]
    go_enter Tryz.func166,Tryz.ntmps166
    go_wp2
    go_ret
    exact ⟨rfl,rfl⟩
  · rw [if_neg h]
    go_enter Tryz.func166,Tryz.ntmps166
    go_wp2
    go_ret
    exact ⟨rfl,rfl⟩
def pb (b:Int) (k:Nat):Int:=if k ≤ 63 then uw b % 2 ^ k else b
def rHi (a b:Int) (k:Nat):Int:=uw (a * pb b k / 18446744073709551616)
def rLo (a b:Int) (k:Nat):Int:=uw (a * pb b k)
theorem add128_lo (N X:Int):uw (uw N + uw X) = uw (N + X):=by unfold uw;omega
theorem add128_0 (N X:Int) (h:¬ uw (uw N + uw X) < uw N):uw (uw (N / 18446744073709551616) + uw (X / 18446744073709551616)) = uw ((N + X) / 18446744073709551616):=by unfold uw at *;omega
theorem add128_1 (N X:Int) (h:uw (uw N + uw X) < uw N):uw (uw (uw (N / 18446744073709551616) + 1) + uw (X / 18446744073709551616)) = uw ((N + X) / 18446744073709551616):=by unfold uw at *;omega
theorem neg128_lo (X:Int):uw (18446744073709551615 - uw X + 1) = uw (-X):=by unfold uw;omega
theorem neg128_0 (X:Int) (h:¬ uw (-X) = 0):18446744073709551615 - uw (X / 18446744073709551616) = uw (-X / 18446744073709551616):=by unfold uw at *;omega
theorem neg128_1 (X:Int) (h:uw (-X) = 0):uw (18446744073709551615 - uw (X / 18446744073709551616) + 1) = uw (-X / 18446744073709551616):=by unfold uw at *;omega
theorem wrap_u (x:Int):IntKind.u64.wrap x = uw x:=by rw [IntKind.wrap_u64];rfl
theorem and_one (x:Int) (h:0 ≤ x ∧ x < 18446744073709551616):bits .and .u64 x 1 = x % 2:=by
  obtain ⟨n,rfl⟩:=Int.eq_ofNat_of_zero_le h.1
  have h1:=bits_and_u64_nat n 1 (by omega) (by omega)
  have e:n &&& 1 = n % 2:=Nat.and_one_is_mod n
  rw [e] at h1
  simpa using h1
theorem xor_all (x:Int) (h:0 ≤ x ∧ x < 18446744073709551616):bits .xor .u64 (if IntKind.u64.signed = true then -1 else IntKind.u64.max) x = 18446744073709551615 - x:=by
  obtain ⟨n,rfl⟩:=Int.eq_ofNat_of_zero_le h.1
  have hn:n < 18446744073709551616:=by omega
  have h1:bits .xor .u64 (if IntKind.u64.signed = true then -1 else IntKind.u64.max) (n:Int) = IntKind.u64.wrap ((BitVec.ofInt 64 18446744073709551615 ^^^ BitVec.ofInt 64 (n:Int)).toNat:Int):=rfl
  have h2:BitVec.ofInt 64 18446744073709551615 = BitVec.allOnes 64:=by decide
  have h3:(BitVec.ofInt 64 (n:Int)).toNat = n:=by rw [BitVec.ofInt_natCast,BitVec.toNat_ofNat];exact Nat.mod_eq_of_lt (by omega)
  rw [h1,h2,BitVec.allOnes_xor,BitVec.toNat_not,h3,wrap_u]
  unfold uw
  omega
theorem or_low (m k:Nat) (y:Nat) (hy:y < 2 ^ k) (hx:2 ^ k * m < 18446744073709551616) (hk:k ≤ 64):bits .or .u64 ((2 ^ k * m:Nat):Int) (y:Int) = ((2 ^ k * m:Nat):Int) + (y:Int):=by
  have hy2:y < 18446744073709551616:=Nat.lt_of_lt_of_le hy (by have:=Nat.pow_le_pow_right (n:=2) (by decide) hk;simpa using this)
  rw [bits_or_u64_nat _ _ hx hy2,← Nat.two_pow_add_eq_or_of_lt hy]
  simp
theorem pow_split (k:Nat) (hk:k ≤ 64):(18446744073709551616:Int) = 2 ^ (64 - k) * 2 ^ k:=by rw [← Int.pow_add,show 64 - k + k = 64 by omega];rfl
theorem pow_splitN (k:Nat) (hk:k ≤ 64):(18446744073709551616:Nat) = 2 ^ (64 - k) * 2 ^ k:=by rw [← Nat.pow_add,show 64 - k + k = 64 by omega]
theorem sh_lo (a:Int) (k:Nat):IntKind.u64.wrap (IntKind.u64.wrap a * 2 ^ k) = uw (a * 2 ^ k):=by
  rw [wrap_u,wrap_u]
  unfold uw
  rw [Int.mul_emod,Int.emod_emod_of_dvd _ (Int.dvd_refl _),← Int.mul_emod]
theorem sh_hi (a:Int) (k:Nat) (hk0:0 < k) (hk:k ≤ 63) (ha:-9223372036854775808 ≤ a ∧ a ≤ 9223372036854775807) (S:Int) (hS:(S = 18446744073709551615 ∧ a < 0) ∨ (S = 0 ∧ 0 ≤ a)) :
    bits .or .u64 (IntKind.u64.wrap (S * 2 ^ k)) (IntKind.u64.wrap a / 2 ^ (64 - k)) = uw (a * 2 ^ k / 18446744073709551616):=by
  obtain ⟨U,hU,hU2⟩:=uw_nat a
  have hp:=pow_split k (by omega)
  have hpN:=pow_splitN k (by omega)
  have hq:(0:Int) < 2 ^ (64 - k):=Int.pow_pos (by decide)
  have hk2:(0:Int) < 2 ^ k:=Int.pow_pos (by decide)
  have e1:a * 2 ^ k / 18446744073709551616 = a / 2 ^ (64 - k):=by
    rw [hp];exact Int.mul_ediv_mul_of_pos_left _ _ hk2
  have hb:U / 2 ^ (64 - k) < 2 ^ k:=by
    rw [Nat.div_lt_iff_lt_mul (Nat.pow_pos (by decide)),Nat.mul_comm];omega
  have hy:IntKind.u64.wrap a / 2 ^ (64 - k) = ((U / 2 ^ (64 - k):Nat):Int):=by rw [wrap_u,hU];simp
  have hle:2 ^ k ≤ 9223372036854775808:=by have:=Nat.pow_le_pow_right (n:=2) (by decide) hk;simpa using this
  have hkp:0 < 2 ^ k:=Nat.pow_pos (by decide)
  rw [e1,hy]
  rcases hS with ⟨rfl,h⟩ | ⟨rfl,h⟩
  · have hw:IntKind.u64.wrap (18446744073709551615 * 2 ^ k) = ((2 ^ k * (2 ^ (64 - k) - 1):Nat):Int):=by
      have h1:((2 ^ k * (2 ^ (64 - k) - 1):Nat):Int) = 18446744073709551616 - 2 ^ k:=by
        have h3:2 ^ k * (2 ^ (64 - k) - 1) + 2 ^ k = 18446744073709551616:=by
          rw [← Nat.mul_succ,Nat.succ_eq_add_one,Nat.sub_add_cancel (Nat.pow_pos (by decide)),Nat.mul_comm];exact hpN.symm
        have h4:((2 ^ k:Nat):Int) = 2 ^ k:=by simp
        omega
      rw [h1,wrap_u]
      unfold uw
      have h5:((2 ^ k:Nat):Int) = 2 ^ k:=by simp
      omega
    rw [hw,or_low _ _ _ hb (by rw [hpN,Nat.mul_comm];exact Nat.mul_lt_mul_of_pos_right (by have:0 < 2 ^ (64 - k):=Nat.pow_pos (by decide);omega) hkp) (by omega),← hw,wrap_u]
    have e2:a = (U:Int) + (-(2 ^ k)) * 2 ^ (64 - k):=by
      have:(2:Int) ^ k * 2 ^ (64 - k) = 18446744073709551616:=by rw [Int.mul_comm];exact hp.symm
      rw [Int.neg_mul,this]
      unfold uw at hU;omega
    rw [e2,Int.add_mul_ediv_right _ _ (by omega)]
    have h6:((U / 2 ^ (64 - k):Nat):Int) = (U:Int) / 2 ^ (64 - k):=by simp
    rw [← h6]
    have h5:(2:Int) ^ k = ((2 ^ k:Nat):Int):=by simp
    rw [h5]
    generalize U / 2 ^ (64 - k) = Y at *
    generalize 2 ^ k = P at *
    clear e1 hy hw e2 h6 hp hpN hq hk2 h5 hU
    unfold uw
    omega
  · have hw:IntKind.u64.wrap (0 * 2 ^ k) = ((2 ^ k * 0:Nat):Int):=by rw [Int.zero_mul];rfl
    rw [hw,or_low _ _ _ hb (by simp) (by omega)]
    have e2:a = (U:Int):=by unfold uw at hU;omega
    rw [e2]
    have h6:((U / 2 ^ (64 - k):Nat):Int) = (U:Int) / 2 ^ (64 - k):=by simp
    rw [← h6]
    generalize U / 2 ^ (64 - k) = Y at *
    generalize 2 ^ k = P at *
    clear e1 hy hw e2 h6 hp hpN hq hk2 hU
    unfold uw
    omega
theorem sh_hi0 (a:Int) (k:Nat) (hk:k ≤ 0) (ha:-9223372036854775808 ≤ a ∧ a ≤ 9223372036854775807) (S:Int) (hS:(S = 18446744073709551615 ∧ a < 0) ∨ (S = 0 ∧ 0 ≤ a)):S = uw (a * 2 ^ k / 18446744073709551616):=by
  obtain rfl:k = 0:=by omega
  unfold uw;rw [Int.pow_zero,Int.mul_one];omega
theorem bit_eq (b:Int) (k:Nat) (hk:k < 64):bits .and .u64 (IntKind.u64.wrap b / 2 ^ k) 1 = uw b / 2 ^ k % 2:=by
  rw [wrap_u]
  obtain ⟨V,hV,hV2⟩:=uw_nat b
  rw [hV]
  have h6:(V:Int) / 2 ^ k = ((V / 2 ^ k:Nat):Int):=by simp
  rw [h6]
  have h7:=Nat.div_le_self V (2 ^ k)
  generalize V / 2 ^ k = Z at *
  exact and_one _ ⟨by omega,by omega⟩
theorem pb_step (b:Int) (k:Nat) (hk:k < 63):pb b (k + 1) = pb b k + (uw b / 2 ^ k % 2) * 2 ^ k:=by
  unfold pb
  rw [if_pos (by omega),if_pos (by omega)]
  obtain ⟨V,hV,_⟩:=uw_nat b
  rw [hV]
  have h:=Nat.mod_pow_succ (b:=2) (x:=V) (k:=k)
  have h1:((V % 2 ^ (k + 1):Nat):Int) = (V:Int) % 2 ^ (k + 1):=by simp
  rw [← h1,h]
  simp [Int.mul_comm]
theorem pb_last (b:Int) (hb:-9223372036854775808 ≤ b ∧ b ≤ 9223372036854775807):pb b 64 = pb b 63 - (uw b / 2 ^ 63 % 2) * 2 ^ 63:=by
  unfold pb
  rw [if_neg (by omega),if_pos (by omega)]
  unfold uw
  omega
theorem pb_0 (b:Int):pb b 0 = 0:=by unfold pb;rw [if_pos (by omega),Int.pow_zero];omega
theorem pb_64 (b:Int):pb b 64 = b:=by unfold pb;rw [if_neg (by omega)]
theorem r_same {a b:Int} {k:Nat} (h:pb b (k + 1) = pb b k):rHi a b k = rHi a b (k + 1) ∧ rLo a b k = rLo a b (k + 1):=by unfold rHi rLo;rw [h];exact ⟨rfl,rfl⟩
theorem r_add {a b X:Int} {k:Nat} (h:a * pb b (k + 1) = a * pb b k + X) (XL XH:Int) (hL:XL = uw X) (hH:XH = uw (X / 18446744073709551616)) :
    IntKind.u64.wrap (rLo a b k + XL) = rLo a b (k + 1) ∧ (rLo a b (k + 1) < rLo a b k → IntKind.u64.wrap (IntKind.u64.wrap (rHi a b k + 1) + XH) = rHi a b (k + 1)) ∧ (¬ rLo a b (k + 1) < rLo a b k → IntKind.u64.wrap (rHi a b k + XH) = rHi a b (k + 1)):=by
  subst hL;subst hH
  simp only [wrap_u]
  unfold rHi rLo
  rw [h]
  have e:=add128_lo (a * pb b k) X
  refine ⟨e,fun hc => ?_,fun hc => ?_⟩
  · exact add128_1 _ _ (by rw [e];exact hc)
  · exact add128_0 _ _ (by rw [e];exact hc)
set_option maxHeartbeats 2000000 in
theorem rprod_any (a b:Int) (w:World) (ha:-9223372036854775808 ≤ a ∧ a ≤ 9223372036854775807) (hb:-9223372036854775808 ≤ b ∧ b ≤ 9223372036854775807) :
    Calls Tryz.prog 163 #[.int .i64 a,.int .i64 b] w fun e w' => e = .returned (.tuple #[.int .i64 (prodHi a b),.int .u64 (prodLo a b)]) ∧ w = w':=by
  by_cases hs:a < 0
  · have h00:rHi a b 0 = 0 ∧ rLo a b 0 = 0:=by unfold rHi rLo;rw [pb_0,Int.mul_zero];exact ⟨rfl,rfl⟩
    have H00:=Lib.hid h00;clear h00
    go_enter Tryz.func163,Tryz.ntmps163
    go_wp2_with fail
    go_loop [6,7,9] (fun h l i => ∃ k:Nat,k ≤ 64 ∧ i = .int .i64 k ∧ h = .int .u64 (rHi a b k) ∧ l = .int .u64 (rLo a b k)) (fun _ _ i => 64 - (intOf i).toNat)
    case atStart => exact ⟨0,by omega,rfl,by rw [H00.out.1],by rw [H00.out.2]⟩
    case round =>
      obtain ⟨k,hk,rfl,rfl,rfl⟩:=hrel
      have HSG:=Lib.hid hs;clear hs
      by_cases hlt:k < 64
      · have hbit:=bit_eq b k hlt
        obtain ⟨t,ht⟩:∃ t,uw b / 2 ^ k % 2 = t:=⟨_,rfl⟩
        have ht2:t = 0 ∨ t = 1:=by omega
        rw [ht] at hbit
        rcases ht2 with h0 | h1
        · subst h0
          have hpb:pb b (k + 1) = pb b k:=by
            rcases Nat.lt_or_ge k 63 with h | h
            · rw [pb_step b k h,ht];omega
            · obtain rfl:k = 63:=by omega
              rw [pb_last b hb,ht];omega
          have hb0:(bits .and .u64 (IntKind.u64.wrap b / 2 ^ k) 1 == 0) = true:=by rw [hbit];rfl
          have hr:=r_same (a:=a) hpb
          have Hr:=Lib.hid hr;clear hr hpb ht hbit
          go_wp2_with fail
          go_round
          case rel => exact ⟨k + 1,by omega,by go_num,by rw [Hr.out.1],by rw [Hr.out.2]⟩
          case measure => simp [intOf];omega
        · subst h1
          have hb1:(bits .and .u64 (IntKind.u64.wrap b / 2 ^ k) 1 == 0) = false:=by rw [hbit];rfl
          have e1:=sh_lo a k
          rcases (show k ≤ 0 ∨ (0 < k ∧ k < 63) ∨ 63 ≤ k by omega) with h | ⟨h,h'⟩ | h
          · have hr:=r_add (a:=a) (b:=b) (k:=k) (X:=a * 2 ^ k) (by rw [pb_step b k (by omega),ht,Int.mul_add,Int.one_mul]) (uw (a * 2 ^ k)) (18446744073709551615) rfl (sh_hi0 a k h ha _ (.inl ⟨rfl,HSG.out⟩))
            have h63:((k:Int) == 63) = false:=by simp;omega
            clear ht hbit
            obtain ⟨g1,g2,g3⟩:=hr
            by_cases hc:rLo a b (k + 1) < rLo a b k
            · have g4:=g2 hc
              clear g2 g3
              go_wp2_with fail
              go_round
              case rel => exact ⟨k + 1,by omega,by go_num,rfl,rfl⟩
              case measure => simp [intOf];omega
            · have g4:=g3 hc
              clear g2 g3
              go_wp2_with fail
              go_round
              case rel => exact ⟨k + 1,by omega,by go_num,rfl,rfl⟩
              case measure => simp [intOf];omega
          · have e2:=sh_hi a k h (by omega) ha (18446744073709551615) (.inl ⟨rfl,HSG.out⟩)
            have hr:=r_add (a:=a) (b:=b) (k:=k) (X:=a * 2 ^ k) (by rw [pb_step b k h',ht,Int.mul_add,Int.one_mul]) (uw (a * 2 ^ k)) (uw (a * 2 ^ k / 18446744073709551616)) rfl rfl
            have h63:((k:Int) == 63) = false:=by simp;omega
            clear ht hbit
            obtain ⟨g1,g2,g3⟩:=hr
            by_cases hc:rLo a b (k + 1) < rLo a b k
            · have g4:=g2 hc
              clear g2 g3
              go_wp2_with fail
              go_round
              case rel => exact ⟨k + 1,by omega,by go_num,rfl,rfl⟩
              case measure => simp [intOf];omega
            · have g4:=g3 hc
              clear g2 g3
              go_wp2_with fail
              go_round
              case rel => exact ⟨k + 1,by omega,by go_num,rfl,rfl⟩
              case measure => simp [intOf];omega
          · have e2:=sh_hi a k (by omega) (by omega) ha (18446744073709551615) (.inl ⟨rfl,HSG.out⟩)
            have e3:=xor_all (uw (a * 2 ^ k)) (uw_bd _)
            have e4:=xor_all (uw (a * 2 ^ k / 18446744073709551616)) (uw_bd _)
            have e5:IntKind.u64.wrap (18446744073709551615 - uw (a * 2 ^ k) + 1) = uw (-(a * 2 ^ k)):=by rw [wrap_u];exact neg128_lo _
            have h63:((k:Int) == 63) = true:=by simp;omega
            have hr:=r_add (a:=a) (b:=b) (k:=k) (X:=-(a * 2 ^ k)) (by obtain rfl:k = 63:=(by omega);rw [pb_last b hb,ht,Int.mul_sub,Int.one_mul];omega) (uw (-(a * 2 ^ k))) (uw (-(a * 2 ^ k) / 18446744073709551616)) rfl rfl
            clear ht hbit
            by_cases hz:uw (-(a * 2 ^ k)) = 0
            · have e6:IntKind.u64.wrap (18446744073709551615 - uw (a * 2 ^ k / 18446744073709551616) + 1) = uw (-(a * 2 ^ k) / 18446744073709551616):=by rw [wrap_u];exact neg128_1 _ hz
              have e7:(uw (-(a * 2 ^ k)) == 0) = true:=by rw [hz];rfl
              clear hz
              obtain ⟨g1,g2,g3⟩:=hr
              by_cases hc:rLo a b (k + 1) < rLo a b k
              · have g4:=g2 hc
                clear g2 g3
                go_wp2_with fail
                go_round
                case rel => exact ⟨k + 1,by omega,by go_num,rfl,rfl⟩
                case measure => simp [intOf];omega
              · have g4:=g3 hc
                clear g2 g3
                go_wp2_with fail
                go_round
                case rel => exact ⟨k + 1,by omega,by go_num,rfl,rfl⟩
                case measure => simp [intOf];omega
            · have e6:18446744073709551615 - uw (a * 2 ^ k / 18446744073709551616) = uw (-(a * 2 ^ k) / 18446744073709551616):=neg128_0 _ hz
              have e7:(uw (-(a * 2 ^ k)) == 0) = false:=by simpa using hz
              clear hz
              obtain ⟨g1,g2,g3⟩:=hr
              by_cases hc:rLo a b (k + 1) < rLo a b k
              · have g4:=g2 hc
                clear g2 g3
                go_wp2_with fail
                go_round
                case rel => exact ⟨k + 1,by omega,by go_num,rfl,rfl⟩
                case measure => simp [intOf];omega
              · have g4:=g3 hc
                clear g2 g3
                go_wp2_with fail
                go_round
                case rel => exact ⟨k + 1,by omega,by go_num,rfl,rfl⟩
                case measure => simp [intOf];omega
      · obtain rfl:k = 64:=by omega
        have hh:wrap64 (rHi a b 64) = prodHi a b:=by
          unfold rHi;rw [pb_64,wrap64_uw];exact wrap64_id (prodHi_bd ha hb).1 (prodHi_bd ha hb).2
        have hl:rLo a b 64 = prodLo a b:=by unfold rLo prodLo;rw [pb_64]
        have Hh:=Lib.hid hh;have Hl:=Lib.hid hl;clear hh hl
        rw [show (((64:Nat):Int)) = 64 from rfl]
        go_wp2_with fail
        go_ret2
        exact ⟨by rw [Hh.out,Hl.out];rfl,rfl⟩
  · have h00:rHi a b 0 = 0 ∧ rLo a b 0 = 0:=by unfold rHi rLo;rw [pb_0,Int.mul_zero];exact ⟨rfl,rfl⟩
    have H00:=Lib.hid h00;clear h00
    go_enter Tryz.func163,Tryz.ntmps163
    go_wp2_with fail
    go_loop [6,7,9] (fun h l i => ∃ k:Nat,k ≤ 64 ∧ i = .int .i64 k ∧ h = .int .u64 (rHi a b k) ∧ l = .int .u64 (rLo a b k)) (fun _ _ i => 64 - (intOf i).toNat)
    case atStart => exact ⟨0,by omega,rfl,by rw [H00.out.1],by rw [H00.out.2]⟩
    case round =>
      obtain ⟨k,hk,rfl,rfl,rfl⟩:=hrel
      have HSG:=Lib.hid hs;clear hs
      by_cases hlt:k < 64
      · have hbit:=bit_eq b k hlt
        obtain ⟨t,ht⟩:∃ t,uw b / 2 ^ k % 2 = t:=⟨_,rfl⟩
        have ht2:t = 0 ∨ t = 1:=by omega
        rw [ht] at hbit
        rcases ht2 with h0 | h1
        · subst h0
          have hpb:pb b (k + 1) = pb b k:=by
            rcases Nat.lt_or_ge k 63 with h | h
            · rw [pb_step b k h,ht];omega
            · obtain rfl:k = 63:=by omega
              rw [pb_last b hb,ht];omega
          have hb0:(bits .and .u64 (IntKind.u64.wrap b / 2 ^ k) 1 == 0) = true:=by rw [hbit];rfl
          have hr:=r_same (a:=a) hpb
          have Hr:=Lib.hid hr;clear hr hpb ht hbit
          go_wp2_with fail
          go_round
          case rel => exact ⟨k + 1,by omega,by go_num,by rw [Hr.out.1],by rw [Hr.out.2]⟩
          case measure => simp [intOf];omega
        · subst h1
          have hb1:(bits .and .u64 (IntKind.u64.wrap b / 2 ^ k) 1 == 0) = false:=by rw [hbit];rfl
          have e1:=sh_lo a k
          rcases (show k ≤ 0 ∨ (0 < k ∧ k < 63) ∨ 63 ≤ k by omega) with h | ⟨h,h'⟩ | h
          · have hr:=r_add (a:=a) (b:=b) (k:=k) (X:=a * 2 ^ k) (by rw [pb_step b k (by omega),ht,Int.mul_add,Int.one_mul]) (uw (a * 2 ^ k)) (0) rfl (sh_hi0 a k h ha _ (.inr ⟨rfl,by have:=HSG.out;omega⟩))
            simp only [Int.add_zero] at hr
            have h63:((k:Int) == 63) = false:=by simp;omega
            clear ht hbit
            obtain ⟨g1,g2,g3⟩:=hr
            by_cases hc:rLo a b (k + 1) < rLo a b k
            · have g4:=g2 hc
              clear g2 g3
              go_wp2_with fail
              go_round
              case rel => exact ⟨k + 1,by omega,by go_num,rfl,rfl⟩
              case measure => simp [intOf];omega
            · have g4:=g3 hc
              clear g2 g3
              go_wp2_with fail
              go_round
              case rel => exact ⟨k + 1,by omega,by go_num,rfl,rfl⟩
              case measure => simp [intOf];omega
          · have e2:=sh_hi a k h (by omega) ha (0) (.inr ⟨rfl,by have:=HSG.out;omega⟩)
            rw [Int.zero_mul,show IntKind.u64.wrap 0 = 0 from rfl] at e2
            have hr:=r_add (a:=a) (b:=b) (k:=k) (X:=a * 2 ^ k) (by rw [pb_step b k h',ht,Int.mul_add,Int.one_mul]) (uw (a * 2 ^ k)) (uw (a * 2 ^ k / 18446744073709551616)) rfl rfl
            have h63:((k:Int) == 63) = false:=by simp;omega
            clear ht hbit
            obtain ⟨g1,g2,g3⟩:=hr
            by_cases hc:rLo a b (k + 1) < rLo a b k
            · have g4:=g2 hc
              clear g2 g3
              go_wp2_with fail
              go_round
              case rel => exact ⟨k + 1,by omega,by go_num,rfl,rfl⟩
              case measure => simp [intOf];omega
            · have g4:=g3 hc
              clear g2 g3
              go_wp2_with fail
              go_round
              case rel => exact ⟨k + 1,by omega,by go_num,rfl,rfl⟩
              case measure => simp [intOf];omega
          · have e2:=sh_hi a k (by omega) (by omega) ha (0) (.inr ⟨rfl,by have:=HSG.out;omega⟩)
            rw [Int.zero_mul,show IntKind.u64.wrap 0 = 0 from rfl] at e2
            have e3:=xor_all (uw (a * 2 ^ k)) (uw_bd _)
            have e4:=xor_all (uw (a * 2 ^ k / 18446744073709551616)) (uw_bd _)
            have e5:IntKind.u64.wrap (18446744073709551615 - uw (a * 2 ^ k) + 1) = uw (-(a * 2 ^ k)):=by rw [wrap_u];exact neg128_lo _
            have h63:((k:Int) == 63) = true:=by simp;omega
            have hr:=r_add (a:=a) (b:=b) (k:=k) (X:=-(a * 2 ^ k)) (by obtain rfl:k = 63:=(by omega);rw [pb_last b hb,ht,Int.mul_sub,Int.one_mul];omega) (uw (-(a * 2 ^ k))) (uw (-(a * 2 ^ k) / 18446744073709551616)) rfl rfl
            clear ht hbit
            by_cases hz:uw (-(a * 2 ^ k)) = 0
            · have e6:IntKind.u64.wrap (18446744073709551615 - uw (a * 2 ^ k / 18446744073709551616) + 1) = uw (-(a * 2 ^ k) / 18446744073709551616):=by rw [wrap_u];exact neg128_1 _ hz
              have e7:(uw (-(a * 2 ^ k)) == 0) = true:=by rw [hz];rfl
              clear hz
              obtain ⟨g1,g2,g3⟩:=hr
              by_cases hc:rLo a b (k + 1) < rLo a b k
              · have g4:=g2 hc
                clear g2 g3
                go_wp2_with fail
                go_round
                case rel => exact ⟨k + 1,by omega,by go_num,rfl,rfl⟩
                case measure => simp [intOf];omega
              · have g4:=g3 hc
                clear g2 g3
                go_wp2_with fail
                go_round
                case rel => exact ⟨k + 1,by omega,by go_num,rfl,rfl⟩
                case measure => simp [intOf];omega
            · have e6:18446744073709551615 - uw (a * 2 ^ k / 18446744073709551616) = uw (-(a * 2 ^ k) / 18446744073709551616):=neg128_0 _ hz
              have e7:(uw (-(a * 2 ^ k)) == 0) = false:=by simpa using hz
              clear hz
              obtain ⟨g1,g2,g3⟩:=hr
              by_cases hc:rLo a b (k + 1) < rLo a b k
              · have g4:=g2 hc
                clear g2 g3
                go_wp2_with fail
                go_round
                case rel => exact ⟨k + 1,by omega,by go_num,rfl,rfl⟩
                case measure => simp [intOf];omega
              · have g4:=g3 hc
                clear g2 g3
                go_wp2_with fail
                go_round
                case rel => exact ⟨k + 1,by omega,by go_num,rfl,rfl⟩
                case measure => simp [intOf];omega
      · obtain rfl:k = 64:=by omega
        have hh:wrap64 (rHi a b 64) = prodHi a b:=by
          unfold rHi;rw [pb_64,wrap64_uw];exact wrap64_id (prodHi_bd ha hb).1 (prodHi_bd ha hb).2
        have hl:rLo a b 64 = prodLo a b:=by unfold rLo prodLo;rw [pb_64]
        have Hh:=Lib.hid hh;have Hl:=Lib.hid hl;clear hh hl
        rw [show (((64:Nat):Int)) = 64 from rfl]
        go_wp2_with fail
        go_ret2
        exact ⟨by rw [Hh.out,Hl.out];rfl,rfl⟩
def sHi (N:Int) (k:Nat):Int:=N / 2 ^ k / 18446744073709551616
def sLo (N:Int) (k:Nat):Int:=uw (N / 2 ^ k)
theorem half_step (N:Int) (k:Nat):N / 2 ^ (k + 1) = N / 2 ^ k / 2:=by
  rw [Int.pow_succ,← Int.ediv_ediv_of_nonneg]
  exact Int.le_of_lt (Int.pow_pos (by decide))
theorem sHi_step (N:Int) (k:Nat):sHi N (k + 1) = sHi N k / 2:=by unfold sHi;rw [half_step];omega
theorem or_comm64 (x y:Int):bits .or .u64 x y = bits .or .u64 y x:=by
  show IntKind.u64.wrap ((BitVec.ofInt 64 x ||| BitVec.ofInt 64 y).toNat:Int) = IntKind.u64.wrap ((BitVec.ofInt 64 y ||| BitVec.ofInt 64 x).toNat:Int)
  rw [BitVec.or_comm]
theorem sLo_step (N:Int) (k:Nat):bits .or .u64 (sLo N k / 2) (IntKind.u64.wrap (IntKind.u64.wrap (sHi N k) * 9223372036854775808)) = sLo N (k + 1):=by
  have h:=shift_or (sHi N k) (sLo N k) 1 (by omega) (uw_bd _)
  rw [or_comm64]
  simp only [Int.pow_one,show (64 - 1:Nat) = 63 from rfl,show (2:Int) ^ 63 = 9223372036854775808 from rfl] at h
  rw [h]
  unfold sLo sHi
  rw [half_step]
  unfold uw
  omega
theorem sHi_bd (N:Int) (k:Nat) (hN:-170141183460469231731687303715884105728 ≤ N ∧ N ≤ 170141183460469231731687303715884105727):-9223372036854775808 ≤ sHi N k ∧ sHi N k ≤ 9223372036854775807:=by
  induction k with
  | zero => unfold sHi;rw [Int.pow_zero];omega
  | succ k ih => rw [sHi_step];omega
set_option maxHeartbeats 1000000 in
theorem rshift_any (N:Int) (q:Nat) (w:World) (hq:q ≤ 62) (hN:-170141183460469231731687303715884105728 ≤ N ∧ N ≤ 170141183460469231731687303715884105727) :
    Calls Tryz.prog 164 #[.int .i64 (N / 18446744073709551616),.int .u64 (uw N),.int .i64 q] w fun e w' => e = .returned (.int .i64 (wrap64 (N / 2 ^ q))) ∧ w = w':=by
  have h0:N / 18446744073709551616 = sHi N 0 ∧ uw N = sLo N 0:=by unfold sHi sLo;rw [Int.pow_zero,Int.ediv_one];exact ⟨rfl,rfl⟩
  rw [h0.1,h0.2]
  have HN:=Lib.hid hN;clear h0 hN
  go_enter Tryz.func164,Tryz.ntmps164
  go_wp2_with fail
  go_loop [0,1,7] (fun h l i => ∃ k:Nat,k ≤ q ∧ i = .int .i64 k ∧ h = .int .i64 (sHi N k) ∧ l = .int .u64 (sLo N k)) (fun _ _ i => q - (intOf i).toNat)
  case atStart => exact ⟨0,Nat.zero_le _,rfl,rfl,rfl⟩
  case round =>
    obtain ⟨k,hk,rfl,rfl,rfl⟩:=hrel
    have hb:=sHi_bd N k HN.out
    by_cases hlt:k < q
    · have e1:=sLo_step N k
      have e2:=sHi_step N k
      have E2:=Lib.hid e2;clear e2
      go_wp2_with fail
      go_round
      case rel => exact ⟨k + 1,by omega,by go_num,by rw [E2.out],rfl⟩
      case measure => simp [intOf];omega
    · obtain rfl:k = q:=by omega
      have he:wrap64 (sLo N k) = wrap64 (N / 2 ^ k):=by unfold sLo;exact wrap64_uw _
      have He:=Lib.hid he;clear he
      go_wp2_with fail
      go_ret
      exact ⟨by rw [← He.out];rfl,rfl⟩
theorem refMul (a b q:Int) (w:World) (ha:-9223372036854775808 ≤ a ∧ a ≤ 9223372036854775807) (hb:-9223372036854775808 ≤ b ∧ b ≤ 9223372036854775807) :
    Calls Tryz.prog 122 #[.int .i64 a,.int .i64 b,.int .i64 q] w fun e w' => e = .returned (.int .i64 (mulQ a b q)) ∧ w = w':=by
  by_cases h1:q < 0
  · have hv:mulQ a b q = 0:=by unfold mulQ;rw [if_pos (.inl h1)]
    rw [hv];clear hv
    go_enter Tryz.func122,Tryz.ntmps122
    go_wp2_with fail
    go_ret
    exact ⟨rfl,rfl⟩
  · by_cases h2:62 < q
    · have hv:mulQ a b q = 0:=by unfold mulQ;rw [if_pos (.inr h2)]
      rw [hv];clear hv
      go_enter Tryz.func122,Tryz.ntmps122
      go_wp2_with fail
      go_ret
      exact ⟨rfl,rfl⟩
    · obtain ⟨Q,rfl⟩:=Int.eq_ofNat_of_zero_le (show 0 ≤ q by omega)
      have hv:mulQ a b Q = wrap64 (a * b / 2 ^ Q):=by unfold mulQ;rw [if_neg (by omega)];simp
      rw [hv]
      have hm:=mul_bd ha hb
      have hp:=rprod_any a b w ha hb
      have hs:=fun w' => rshift_any (a * b) Q w' (by omega) (by omega)
      have Hp:=Lib.hid hp;have Hs:=Lib.hid hs;clear hp hs hv hm
      go_enter Tryz.func122,Tryz.ntmps122
      go_wp2_with fail
      refine Hp.out.mono ?_
      rintro e w1 ⟨rfl,rfl⟩
      go_wp2_with fail
      refine (Hs.out _).mono ?_
      rintro e w2 ⟨rfl,rfl⟩
      go_wp2_with fail
      go_ret
      exact ⟨rfl,rfl⟩
end Go.Proofs.YthamijnggdjaoaaGreatDoor
namespace Go.Proofs.YthamijnggdjaoaaGreatDoor
open Go.RowKit
def wL (sz ps:List Int) (k:Nat):List Int:=upTo (szN sz (k + 1) * szN sz k) fun i => nth ps (cntN sz k + i)
def bL (sz ps:List Int) (k:Nat):List Int:=upTo (szN sz (k + 1)) fun i => nth ps (midN sz k + i)
theorem wL_len (sz ps:List Int) (k:Nat):(wL sz ps k).length = szN sz (k + 1) * szN sz k:=upTo_len _ _
theorem bL_len (sz ps:List Int) (k:Nat):(bL sz ps k).length = szN sz (k + 1):=upTo_len _ _
def LinkCs (w:World) (cs:List Value) (sz ps:List Int) (k:Nat):Prop:=∃ g o d B e,
  cs = [.int .i64 (szN sz (k + 1):Int),.int .i64 (szN sz k:Int),.slice (some ⟨g,o,none⟩) (szN sz (k + 1) * szN sz k) d,.slice B (szN sz (k + 1)) e] ∧ szN sz (k + 1) * szN sz k ≤ d ∧
  Rd w (some ⟨g,o,none⟩) (nums .i64 (wL sz ps k)) ∧ Rd w B (nums .i64 (bL sz ps k))
def NetAt (TS TN:TypeId) (w:World) (b:Nat) (sz ps:List Int) (q:Int):Prop:=∃ S Ap cp Al cl rows,
  w.heap[b]? = some (.cells #[.pointer (some ⟨S,0,none⟩),.slice Ap ps.length cp,.int .i64 q,.slice Al (sz.length - 1) cl] TN (0,0)) ∧
  ShapeAt TS w S sz ∧ Rd w Ap (nums .i64 ps) ∧ Rd w Al (List.flatten rows) ∧ rows.length = sz.length - 1 ∧ (∀ r ∈ rows,r.length = 4) ∧ ∀ j,j < sz.length - 1 → LinkCs w (rowOf rows j) sz ps j
theorem LinkCs.below {w w':World} {cs:List Value} {sz ps:List Int} {k:Nat} (h:LinkCs w cs sz ps k) (hb:Below w.heap.size w w'):LinkCs w' cs sz ps k:=by
  obtain ⟨g,o,d,B,e,h1,h2,h3,h4⟩:=h
  exact ⟨g,o,d,B,e,h1,h2,h3.below hb,h4.below hb⟩
theorem NetAt.below {TS TN:TypeId} {w w':World} {b:Nat} {sz ps:List Int} {q:Int} (h:NetAt TS TN w b sz ps q) (hb:Below w.heap.size w w'):NetAt TS TN w' b sz ps q:=by
  obtain ⟨S,Ap,cp,Al,cl,rows,h0,h1,h2,h3,h4,h5,h6⟩:=h
  exact ⟨S,Ap,cp,Al,cl,rows,(hb.block b (lt_of_block h0)).trans h0,h1.below hb,h2.below hb,h3.below hb,h4,h5,fun j hj => (h6 j hj).below hb⟩
theorem NetAt.lt {TS TN:TypeId} {w:World} {b:Nat} {sz ps:List Int} {q:Int} (h:NetAt TS TN w b sz ps q):b < w.heap.size:=by
  obtain ⟨S,Ap,cp,Al,cl,rows,h0,_⟩:=h
  exact lt_of_block h0
end Go.Proofs.YthamijnggdjaoaaGreatDoor
namespace Go.Proofs.YthamijnggdjaoaaGreatDoor
open Go.RowKit
theorem et_vec:ElemT Tryz.prog 65 2 (.int .i64 0) 1 8:=⟨Tryz.underlying65,info_parts (by kernel_rfl),rfl,by decide⟩
theorem sclone_any (A:Option Addr) (zs:List Int) (c:Nat) (w:World) (hA:Rd w A (nums .i64 zs)) (hl:zs.length ≤ 17592186043904) :
    Calls Tryz.prog 111 #[.slice A zs.length c] w fun e w' => ∃ v,e = .returned v ∧ w'.ownsRow w.heap.size 2 1 v zs.length (nums .i64 zs) ∧ Below w.heap.size w w':=by
  have q:=fun (w:World) => Lib.run_eql_slice_nil (P:=Tryz.prog) w 65 2 A zs.length c 0 0 Tryz.underlying65
  cases A with
  | none =>
    have hz:zs = []:=by
      cases zs with
      | nil => rfl
      | cons z l => obtain ⟨b,o,h,_⟩:=hA 0 _ rfl;cases h
    subst hz
    clear q
    have q:=fun (w:World) => Lib.run_eql_slice_nil (P:=Tryz.prog) w 65 2 none 0 c 0 0 Tryz.underlying65
    simp only [Option.isNone_none] at q
    rw [List.length_nil]
    go_enter Tryz.func111,Tryz.ntmps111
    go_wp2
    go_ret
    exact ⟨_,rfl,World.ownsRow_nil _ _ _ _,Below.refl _ _⟩
  | some a =>
    go_enter Tryz.func111,Tryz.ntmps111
    go_wp2_with (at_builtin;refine wpList_app et_vec _ rfl (.tmp 5) (.tmp 6) rfl w.heap.size _ 0 [] rfl (own_empty w 2 1) _ zs.length c (nums .i64 zs) rfl (hA.alloc _) (by rw [nums_length];omega) (nums_cell _ _) (by omega) (by unfold maxLen;omega) (by simp) ?_)
    intro A' c' w1 hown hb _ _
    have hb1:=((Below.refl _ w).alloc (Nat.le_refl _) (.cells #[] 2)).trans hb
    have Hown:=Lib.hid hown;have Hb1:=Lib.hid hb1;clear hown hb hb1
    go_wp2
    go_ret
    exact ⟨_,rfl,Hown.out,Hb1.out⟩
theorem vclone_any (A:Option Addr) (zs:List Int) (c:Nat) (w:World) (hA:Rd w A (nums .i64 zs)) (hl:zs.length ≤ 17592186043904) :
    Calls Tryz.prog 61 #[.slice A zs.length c] w fun e w' => ∃ A' c',e = .returned (.slice A' zs.length c') ∧ zs.length ≤ c' ∧ w'.ownsRow w.heap.size 2 1 (.slice A' zs.length c') zs.length (nums .i64 zs) ∧ Below w.heap.size w w':=by
  have h:=sclone_any A zs c w hA hl
  go_enter Tryz.func61,Tryz.ntmps61
  go_wp2_with fail
  refine h.mono ?_
  rintro e w1 ⟨v,rfl,hown,hb⟩
  obtain ⟨A',c',rfl,hc⟩:=own_form hown
  clear h
  have Hown:=Lib.hid hown;have Hb:=Lib.hid hb;have Hc:=Lib.hid hc;clear hown hb hc
  go_wp2
  go_ret
  exact ⟨_,_,rfl,Hc.out,Hown.out,Hb.out⟩
theorem dot_any (A B:Option Addr) (xs ys:List Int) (c d:Nat) (q:Int) (w:World) (hA:Rd w A (nums .i64 xs)) (hB:Rd w B (nums .i64 ys)) (hl:xs.length = ys.length) (hm:xs.length ≤ 17592186043904) (wx:W64 xs) (wy:W64 ys) :
    Calls Tryz.prog 68 #[.slice A xs.length c,.slice B ys.length d,.int .i64 q] w fun e w' => e = .returned (.tuple #[.int .i64 (dotL xs ys q),.bool true]) ∧ Below w.heap.size w w':=by
  obtain ⟨n,hn⟩:∃ n,ys.length = n:=⟨_,rfl⟩
  have hnx:xs.length = n:=hl.trans hn
  have hd:dotL xs ys q = dotN xs ys q n:=by unfold dotL;rw [hnx]
  rw [hnx,hn,hd]
  have hmn:n ≤ 17592186043904:=by omega
  have Hn:=Lib.hid hn;have Hx:=Lib.hid hnx;have HA:=Lib.hid hA;have HB:=Lib.hid hB;have WX:=Lib.hid wx;have WY:=Lib.hid wy;clear hn hnx hA hB wx wy hl hm hd
  go_enter Tryz.func68,Tryz.ntmps68
  go_wp2_with fail
  go_loopw [8,18] (fun s i wr => ∃ k:Nat,k ≤ n ∧ i = .int .i64 k ∧ s = .int .i64 (dotN xs ys q k) ∧ Below w.heap.size w wr) (fun _ i _ => n - (intOf i).toNat)
  case atStart => exact ⟨0,Nat.zero_le _,rfl,rfl,Below.refl _ _⟩
  case round =>
    obtain ⟨k,hk,rfl,rfl,hW⟩:=hrel
    by_cases hlt:k < n
    · obtain ⟨b1,o1,hA1,p1⟩:=(HA.out.below hW).num (show k < xs.length by rw [Hx.out];exact hlt)
      obtain ⟨b2,o2,hB1,p2⟩:=(HB.out.below hW).num (show k < ys.length by rw [Hn.out];exact hlt)
      subst hA1;subst hB1
      have hm1:=fun w' => fixMul (nth xs k) (nth ys k) q w' (WX.out k (by rw [Hx.out];exact hlt)) (WY.out k (by rw [Hn.out];exact hlt))
      have Hm:=Lib.hid hm1;have HW:=Lib.hid hW;clear hm1 hW
      go_wp2_with fail
      refine (Hm.out _).mono ?_
      rintro e w3 ⟨rfl,hb3⟩
      have HB3:=Lib.hid (HW.out.trans (hb3.mono HW.out.size));clear hb3
      go_wp2_with fail
      go_roundw
      case rel => exact ⟨k + 1,by omega,by go_num,rfl,HB3.out⟩
      case measure => simp [intOf];omega
    · obtain rfl:k = n:=by omega
      have HW:=Lib.hid hW;clear hW
      go_wp2_with fail
      go_ret2
      exact ⟨rfl,HW.out⟩
theorem own_num {w:World} {base n g c:Nat} {xs:List Int} {e:TypeId} (h:w.ownsRow base e 1 (.slice (some ⟨g,0,none⟩) n c) n (nums .i64 xs)) {k:Nat} (hk:k < n):w.cell? ⟨g,k,none⟩ = some (.int .i64 (nth xs k)):=by
  rw [h.cellAt k (by omega)]
  have:=h.1
  rw [nums_length] at this
  exact nums_get .i64 xs k (by omega)
theorem own_len {w:World} {base n:Nat} {v:Value} {xs:List Int} {e:TypeId} (h:w.ownsRow base e 1 v n (nums .i64 xs)):xs.length = n:=by
  have:=h.1
  rw [nums_length] at this
  omega
theorem own_put {w:World} {base n g c:Nat} {xs:List Int} {e:TypeId} (h:w.ownsRow base e 1 (.slice (some ⟨g,0,none⟩) n c) n (nums .i64 xs)) (k:Nat) (v:Int) :
    (w.setCell ⟨g,k,none⟩ (.int .i64 v)).ownsRow base e 1 (.slice (some ⟨g,0,none⟩) n c) n (nums .i64 (xs.set k v)):=by
  have:=(h.stored k (.int .i64 v)).1
  rwa [nums_set] at this
theorem scale_any (A:Option Addr) (xs:List Int) (c:Nat) (a q:Int) (w:World) (hA:Rd w A (nums .i64 xs)) (hm:xs.length ≤ 17592186043904) (wx:W64 xs) (ha:-9223372036854775808 ≤ a ∧ a ≤ 9223372036854775807) :
    Calls Tryz.prog 287 #[.slice A xs.length c,.int .i64 a,.int .i64 q] w fun e w' => ∃ A' c',e = .returned (.slice A' xs.length c') ∧ w'.ownsRow w.heap.size 2 1 (.slice A' xs.length c') xs.length (nums .i64 (scaleL xs a q)) ∧ Below w.heap.size w w':=by
  have hcl:=vclone_any A xs c w hA hm
  have hall:=mixed_all xs (fun k => mulQ (nth xs k) a q)
  obtain ⟨n,hn⟩:∃ n,xs.length = n:=⟨_,rfl⟩
  rw [hn] at hcl hm
  unfold scaleL
  rw [← hall,hn]
  have Hc:=Lib.hid hcl;have WX:=Lib.hid wx;have Hn:=Lib.hid hn;clear hcl wx hA hall hn
  go_enter Tryz.func287,Tryz.ntmps287
  go_wp2_with fail
  refine Hc.out.mono ?_
  rintro e w1 ⟨A',c',rfl,_,hown,hb⟩
  have HO:=Lib.hid hown;have HB:=Lib.hid hb;clear hown hb
  go_wp2_with fail
  go_loopw [14] (fun i wr => ∃ k:Nat,k ≤ n ∧ i = .int .i64 k ∧ wr.ownsRow w.heap.size 2 1 (.slice A' n c') n (nums .i64 (mixed xs k (fun k => mulQ (nth xs k) a q))) ∧ Below w.heap.size w wr) (fun i _ => n - (intOf i).toNat)
  case atStart => exact ⟨0,Nat.zero_le _,rfl,by rw [mixed_zero];exact HO.out,HB.out⟩
  case round =>
    obtain ⟨k,hk,rfl,hown,hW⟩:=hrel
    by_cases hlt:k < n
    · obtain ⟨g,d,hv,hg,hgl⟩:=hown.form (by omega)
      simp only [Value.slice.injEq] at hv
      obtain ⟨rfl,hx1,rfl⟩:=hv
      clear hx1
      have hkx:k < xs.length:=by rw [Hn.out];exact hlt
      have p1:=own_num hown hlt
      rw [mixed_nth _ hkx,if_neg (by omega)] at p1
      have hm1:=fun w' => fixMul (nth xs k) a q w' (WX.out k hkx) ha
      have hst:=mixed_set (l:=xs) (k:=k) (fun k => mulQ (nth xs k) a q) hkx
      have Hm:=Lib.hid hm1;have HW:=Lib.hid hW;have HO2:=Lib.hid hown;have Hst:=Lib.hid hst;clear hm1 hW hown hst hkx
      go_wp2_with fail
      refine (Hm.out _).mono ?_
      rintro e w3 ⟨rfl,hb3⟩
      have hown3:=own_below HO2.out hb3
      have p3:∃ u,w3.cell? ⟨g,k,none⟩ = some u:=⟨_,own_num hown3 hlt⟩
      obtain ⟨u3,p3⟩:=p3
      have f3:=hown3.frozenAt k
      have HO3:=Lib.hid (own_put hown3 k (mulQ (nth xs k) a q));have HB3:=Lib.hid ((HW.out.trans (hb3.mono HW.out.size)).setCell (p:=⟨g,k,none⟩) hg (.int .i64 (mulQ (nth xs k) a q)));clear hb3 hown3
      go_wp2_with fail
      go_roundw
      case rel => exact ⟨k + 1,by omega,by go_num,by rw [← Hst.out];exact HO3.out,HB3.out⟩
      case measure => simp [intOf];omega
    · obtain rfl:k = n:=by omega
      have HW:=Lib.hid hW;have HO2:=Lib.hid hown;clear hW hown
      go_wp2_with fail
      go_ret
      exact ⟨_,_,rfl,HO2.out,HW.out⟩
theorem add_any (base:Nat) (A B:Option Addr) (xs ys:List Int) (n c d:Nat) (w:World) (hown:w.ownsRow base 2 1 (.slice A n c) n (nums .i64 xs)) (hB:Rd w B (nums .i64 ys)) (hl:ys.length = n) (hm:n ≤ 17592186043904)
    (hne:∀ a b,A = some a → B = some b → a.block ≠ b.block) :
    Calls Tryz.prog 156 #[.slice A n c,.slice B n d] w fun e w' => e = .returned (.bool true) ∧ w'.ownsRow base 2 1 (.slice A n c) n (nums .i64 (addL xs ys)) ∧ Keep (fun i => (Value.slice A n c).ownBlock = some i) w w':=by
  have hxl:=own_len hown
  have hall:=mixed_all xs (fun k => wrap64 (nth xs k + nth ys k))
  unfold addL
  rw [← hall,hxl]
  have HO:=Lib.hid hown;have HB:=Lib.hid hB;have Hn:=Lib.hid hxl;have Hl:=Lib.hid hl;have HN:=Lib.hid hne;clear hown hB hxl hl hall hne
  go_enter Tryz.func156,Tryz.ntmps156
  go_wp2_with fail
  go_loopw [13] (fun i wr => ∃ k:Nat,k ≤ n ∧ i = .int .i64 k ∧ wr.ownsRow base 2 1 (.slice A n c) n (nums .i64 (mixed xs k (fun k => wrap64 (nth xs k + nth ys k)))) ∧ Keep (fun i => (Value.slice A n c).ownBlock = some i) w wr) (fun i _ => n - (intOf i).toNat)
  case atStart => exact ⟨0,Nat.zero_le _,rfl,by rw [mixed_zero];exact HO.out,Keep.refl _ _⟩
  case round =>
    obtain ⟨k,hk,rfl,hown,hK⟩:=hrel
    by_cases hlt:k < n
    · obtain ⟨g,e,hv,hg,hgl⟩:=hown.form (by omega)
      simp only [Value.slice.injEq] at hv
      obtain ⟨rfl,hx1,rfl⟩:=hv
      clear hx1
      have hkx:k < xs.length:=by rw [Hn.out];exact hlt
      have p1:=own_num hown hlt
      rw [mixed_nth _ hkx,if_neg (by omega)] at p1
      have f1:=hown.frozenAt k
      obtain ⟨b2,o2,rfl,p0⟩:=HB.out.num (show k < ys.length by rw [Hl.out];exact hlt)
      have hgb:g ≠ b2:=HN.out _ _ rfl rfl
      have p2:wr.cell? ⟨b2,o2 + k,none⟩ = some (.int .i64 (nth ys k)):=hK.cell p0 (by simp [Value.ownBlock];exact hgb)
      have hst:=mixed_set (l:=xs) (k:=k) (fun k => wrap64 (nth xs k + nth ys k)) hkx
      have HK:=Lib.hid hK;have HO2:=Lib.hid hown;have Hst:=Lib.hid hst;clear hK hown hst hkx p0
      go_wp2_with fail
      go_region
      all_goals go_wp2_with fail
      all_goals
        go_roundw
        case rel =>
          refine ⟨k + 1,by omega,by go_num,?_,?_⟩
          · rw [← Hst.out];exact own_put (own_drewN HO2.out 1) k _
          · exact Keep.setCell (HK.out.drewN 1) ⟨g,k,none⟩ (.inr rfl) _
        case measure => simp [intOf];omega
    · obtain rfl:k = n:=by omega
      have HK:=Lib.hid hK;have HO2:=Lib.hid hown;clear hK hown
      go_wp2_with fail
      go_ret
      exact ⟨rfl,HO2.out,HK.out⟩
end Go.Proofs.YthamijnggdjaoaaGreatDoor
namespace Go.Proofs.YthamijnggdjaoaaGreatDoor
open Go.RowKit
theorem sides_any (r c:Int) (w:World) (hr:1 ≤ r ∧ r ≤ 1048576) (hc:1 ≤ c ∧ c ≤ 1048576):Calls Tryz.prog 153 #[.int .i64 r,.int .i64 c] w fun e w' => e = .returned (.bool true) ∧ w = w':=by
  obtain ⟨h1,h2⟩:=hr
  obtain ⟨h3,h4⟩:=hc
  go_enter Tryz.func153,Tryz.ntmps153
  go_wp2
  go_ret
  exact ⟨ret_bool (by simp [*]),rfl⟩
theorem right_any (r c:Nat) (A:Option Addr) (n d:Nat) (w:World) (hr:1 ≤ r ∧ r ≤ 1048576) (hc:1 ≤ c ∧ c ≤ 1048576) (hn:n = r * c) (hm:n ≤ 17592186043904) :
    Calls Tryz.prog 112 #[.agg #[.int .i64 r,.int .i64 c,.slice A n d]] w fun e w' => e = .returned (.bool true) ∧ w' = w.alloc (.cells #[.int .i64 r,.int .i64 c,.slice A n d] 133):=by
  have hs:=fun w' => sides_any r c w' (by omega) (by omega)
  have hmul:(r:Int) * (c:Int) = (n:Int):=by rw [hn];simp
  have hm1:0 ≤ (r:Int) * (c:Int) ∧ (r:Int) * (c:Int) ≤ 17592186043904:=by omega
  have hq:((n:Int) == IntKind.i64.wrap ((r:Int) * (c:Int))) = true:=by rw [IntWalk.i64_in _ (by omega),hmul];simp
  have hq2:((n:Int) == (r:Int) * (c:Int)) = true:=by rw [hmul];simp
  have Hs:=Lib.hid hs;clear hs hmul hn
  go_enter Tryz.func112,Tryz.ntmps112
  go_wp2_with fail
  refine (Hs.out _).mono ?_
  rintro e w1 ⟨rfl,rfl⟩
  go_wp2_with fail
  all_goals
    go_ret
    exact ⟨ret_bool (by first | rfl | simp [*]),rfl⟩
theorem of_any (r c:Nat) (A:Option Addr) (zs:List Int) (d:Nat) (w:World) (hr:1 ≤ r ∧ r ≤ 1048576) (hc:1 ≤ c ∧ c ≤ 1048576) (hn:zs.length = r * c) (hm:zs.length ≤ 17592186043904) (hA:Rd w A (nums .i64 zs)) :
    Calls Tryz.prog 66 #[.int .i64 r,.int .i64 c,.slice A zs.length d] w fun e w' => ∃ A' d',e = .returned (.tuple #[.agg #[.int .i64 r,.int .i64 c,.slice A' zs.length d'],.bool true]) ∧ zs.length ≤ d' ∧ w'.ownsRow w.heap.size 2 1 (.slice A' zs.length d') zs.length (nums .i64 zs) ∧ Below w.heap.size w w':=by
  have hcl:=fun w' (k:Below w.heap.size w w') => vclone_any A zs d w' (hA.below k) hm
  obtain ⟨n,hnn⟩:∃ n,zs.length = n:=⟨_,rfl⟩
  rw [hnn] at hcl hn hm ⊢
  have hrt:=fun A' d' w' => right_any r c A' n d' w' hr hc hn hm
  have Hc:=Lib.hid hcl;have Hr:=Lib.hid hrt;clear hcl hrt hnn hA hn
  go_enter Tryz.func66,Tryz.ntmps66
  go_wp2_with fail
  refine (Hc.out _ ?_).mono ?_
  · (focus (repeat' (first | (with_reducible exact Below.refl _ _) | (with_reducible assumption) | (with_reducible refine Below.setCell ?_ ?_ _) | (with_reducible refine Below.alloc ?_ ?_ _) | (with_reducible refine below_drewN ?_ _) | (with_reducible refine Below.drew ?_) | (with_reducible exact Nat.le_refl _) | omega | (simp;done) | (simp;omega))))
  rintro e w1 ⟨A',d',rfl,hd,hown,hb⟩
  have hres:=(hb.block w.heap.size (by simp)).trans (heap_alloc_new w _)
  obtain ⟨⟨r0,r1,r2⟩,rf⟩:=bx3 hres
  have hs1:w.heap.size < w1.heap.size:=lt_of_block hres
  have HO:=Lib.hid (own_base hown (base':=w.heap.size) (by simp));have HD:=Lib.hid hd;have HW:=Lib.hid (Below.trans ((Below.refl _ w).alloc (Nat.le_refl _) _) (hb.mono (by simp)));have Hob:=Lib.hid hown;clear hown hd hb hres
  go_wp2_with fail
  refine (Hr.out _ _ _).mono ?_
  rintro e w2 ⟨rfl,rfl⟩
  go_wp2_with fail
  refine bodyPost_ret (v:=.tuple #[.agg #[.int .i64 r,.int .i64 c,.slice A' n d'],.bool true]) (by simp [results,Tryz.results66,go_sem,r0,r1,r2,hs1]) rfl ⟨A',d',rfl,HD.out,?_,?_⟩
  · refine own_base (Keep.own (S:=fun i => i = w.heap.size) (w:=w1) ?_ Hob.out (fun k hk e => by have:=(Hob.out.lt k hk).1;simp at this;omega)) (by simp)
    (focus (repeat' (first | (with_reducible exact Keep.refl _ _) | (with_reducible assumption) | (with_reducible refine Keep.setCell ?_ _ ?_ _) | (with_reducible refine Keep.alloc ?_ _) | (with_reducible refine Keep.drewN ?_ _) | (with_reducible refine Keep.drew ?_) | (with_reducible exact Or.inr (linkS_b _ _)) | (with_reducible exact Or.inr (linkS_g _ _)) | (refine Or.inr ?_;first | rfl | (simp;done) | omega) | (refine Or.inl ?_;first | omega | (simp;done) | (simp;omega)))))
  · have hW:=HW.out
    (focus (repeat' (first | (with_reducible exact Below.refl _ _) | (with_reducible assumption) | (with_reducible refine Below.setCell ?_ ?_ _) | (with_reducible refine Below.alloc ?_ ?_ _) | (with_reducible refine below_drewN ?_ _) | (with_reducible refine Below.drew ?_) | (with_reducible exact Nat.le_refl _) | omega | (simp;done) | (simp;omega))))
theorem row_any (r c k:Nat) (g o n d:Nat) (w:World) (hr:r ≤ 1048576) (hc:1 ≤ c ∧ c ≤ 1048576) (hk:k < r) (hn:n = r * c) (hd:n ≤ d) :
    Calls Tryz.prog 249 #[.agg #[.int .i64 r,.int .i64 c,.slice (some ⟨g,o,none⟩) n d],.int .i64 k] w fun e w' => e = .returned (.slice (some ⟨g,o + k * c,none⟩) c c) ∧ Below w.heap.size w w':=by
  have h1:k * c + c ≤ n:=by rw [hn];have:=Nat.mul_le_mul_right c (show k + 1 ≤ r by omega);rw [Nat.succ_mul] at this;exact this
  have h2:k * c ≤ 1048576 * 1048576:=Nat.mul_le_mul (by omega) (by omega)
  have e1:(k:Int) * (c:Int) = ((k * c:Nat):Int):=(Int.natCast_mul k c).symm
  have e2:((k:Int) + 1) * (c:Int) = ((k * c + c:Nat):Int):=by rw [Int.add_mul,e1];simp
  obtain ⟨p,hp⟩:∃ p,k * c = p:=⟨_,rfl⟩
  rw [hp] at h1 h2 e1 e2 ⊢
  clear hp hn
  go_enter Tryz.func249,Tryz.ntmps249
  go_wp2_with fail
  go_quiet (fail)
  have hx1:¬ (p + c = p):=by omega
  go_wp2
  rw [show p + c - p = c by omega]
  go_ret
  refine ⟨rfl,?_⟩
  (focus (repeat' (first | (with_reducible exact Below.refl _ _) | (with_reducible assumption) | (with_reducible refine Below.setCell ?_ ?_ _) | (with_reducible refine Below.alloc ?_ ?_ _) | (with_reducible refine below_drewN ?_ _) | (with_reducible refine Below.drew ?_) | (with_reducible exact Nat.le_refl _) | omega | (simp;done) | (simp;omega))))
theorem rows_any (cs:Array Value) (w:World):Calls Tryz.prog 210 #[.agg cs] w fun e w' => e = .returned (.func (.func 248) #[] #[.pointer (some ⟨w.heap.size,0,none⟩)]) ∧ w' = w.alloc (.cells cs 133):=by
  go_enter Tryz.func210,Tryz.ntmps210
  go_wp2
  go_ret
  exact ⟨rfl,rfl⟩
end Go.Proofs.YthamijnggdjaoaaGreatDoor
namespace Go.Proofs.YthamijnggdjaoaaGreatDoor
open Go.RowKit Go.Shelf
theorem grown_none {w w':World} (h:Below w.heap.size w w'):w.grownBy w' none:=⟨h.os,h.tape,h.output,h.size,fun k hk _ => h.block k hk⟩
theorem ownFrom_block {β:Type} (B b:Nat) (o:Obj) (ho:o.isCells = true):OwnFrom B (fun (_:β) W => W.heap[b]? = some o):=fun _ W W' row hs hg hr =>
  (hg.block b (lt_of_block hs) fun e => by
    obtain ⟨o',h,hc⟩:=(hr b e.symm).2
    rw [hs] at h
    cases h
    rw [ho] at hc
    cases hc).trans hs
theorem wpListIn_push {F:Fence} {m:Nat} {P:Program} {t e:TypeId} {z:Value} {size bytes:Nat} (T:ElemT P t e z size bytes) (W:World) {ops:Array Oper} {rest:List Oper} {o:Oper} {a:Act} {Q:Exit → Act → World → Prop}
    (hgd:o.guard = none) (s x:Operand) (ho:o.op = .call { callee:=.builtin .append,args:=#[s,x],argTypes:=#[t,t] })
    (n₀ B:Nat) (v:Value) (n:Nat) (xs:List Value) (hs:a.eval s = v) (hbx:Boxed W B t v) (hte:t ≠ e) (hown:W.ownsRow n₀ e size v n xs)
    (us:List Value) (hx:a.eval x = .slice (some ⟨W.heap.size,0,none⟩) 1 1) (hus:us.length = size) (h1:∀ u ∈ us,u.oneCell' = true)
    (hb:(n + 1) * bytes ≤ 140737488355328) (h63:n + 1 ≤ maxLen) (hbase:n₀ ≤ W.heap.size) (hB:n₀ ≤ B)
    (h:∀ g c w1,Boxed w1 B t v → Boxed (w1.setCell ⟨B,0,none⟩ (.slice (some ⟨g,0,none⟩) (n + 1) c)) B t (.slice (some ⟨g,0,none⟩) (n + 1) c) →
      (w1.setCell ⟨B,0,none⟩ (.slice (some ⟨g,0,none⟩) (n + 1) c)).ownsRow n₀ e size (.slice (some ⟨g,0,none⟩) (n + 1) c) (n + 1) (xs ++ us) →
      KeepsOthers W (w1.setCell ⟨B,0,none⟩ (.slice (some ⟨g,0,none⟩) (n + 1) c)) → Below n₀ W (w1.setCell ⟨B,0,none⟩ (.slice (some ⟨g,0,none⟩) (n + 1) c)) →
      (∀ b cs t' sg,b ≠ B → t' ≠ e → W.heap[b]? = some (.cells cs t' sg) → (w1.setCell ⟨B,0,none⟩ (.slice (some ⟨g,0,none⟩) (n + 1) c)).heap[b]? = some (.cells cs t' sg)) →
      wpListIn F m P ops Q rest (a.put o.dst (.slice (some ⟨g,0,none⟩) (n + 1) c)) w1):wpListIn F m P ops Q (o :: rest) a (W.alloc (.cells us.toArray e)):=by
  obtain ⟨i,hi,hz0,hz1,hz2⟩:=T.info
  refine wpListIn_append_own (W.alloc (.cells us.toArray e)) hgd s x t ho n₀ e i z size bytes T.und hi hz0 hz1 hz2 T.zs T.pos v n xs hs (hown.alloc _) ⟨W.heap.size,0,none⟩ 1 1 us hx (by simpa using hus) ?_ h1 h63 hb
    (by simp;omega) ?_
  · intro j u hu
    rw [Addr.add_lit,Nat.zero_add,cell_of_row _ W.heap.size j us.toArray e (0,0) (heap_alloc_new W _)]
    simpa using hu
  · intro v' w1 hown' hg _
    obtain ⟨g,c,rfl⟩:=ownsRow_succ hown'
    obtain ⟨k1,k2,k3,k4,k5⟩:=hbx.appended hte hown hbase hB hown' hg
    refine h g c w1 k1 k2 k3 k4 k5 fun b cs t' sg hbB hte' hbk => ?_
    have h0:(W.alloc (.cells us.toArray e)).heap[b]? = some (.cells cs t' sg):=(Below.heap_alloc W _ b (lt_of_block hbk)).trans hbk
    have h1:w1.heap[b]? = some (.cells cs t' sg):=(hg.block b (lt_of_block h0) (block_notrow h0 hte' (hown.alloc _))).trans h0
    exact (Below.heap_setCell w1 _ _ b (fun e => hbB e)).trans h1
theorem own_turn {W W':World} {B base:Nat} {e:TypeId} {size n:Nat} {v:Value} {xs:List Value} {row:Option Nat} (h:W.ownsRow base e size v n xs) (hg:W.grownBy W' row) (hr:∀ r,row = some r → B ≤ r ∧ ∃ o:Obj,W.heap[r]? = some o ∧ o.isCells = false):W'.ownsRow base e size v n xs:=by
  refine h.kept hg ?_
  rcases h.2 with ⟨rfl,_⟩ | ⟨g,cap,cur,rfl,_,hgb,_⟩
  · exact .inl rfl
  · refine .inr fun e' => ?_
    obtain ⟨o,ho,hc⟩:=(hr g (by simpa [Value.ownBlock] using e'.symm)).2
    rw [hgb] at ho;cases ho;cases hc
theorem block_turn {W W':World} {B b:Nat} {o:Obj} (ho:o.isCells = true) {row:Option Nat} (h:W.heap[b]? = some o) (hg:W.grownBy W' row) (hr:∀ r,row = some r → B ≤ r ∧ ∃ o:Obj,W.heap[r]? = some o ∧ o.isCells = false):W'.heap[b]? = some o:=
  (hg.block b (lt_of_block h) fun e => by
    obtain ⟨o',h',hc⟩:=(hr b e.symm).2
    rw [h] at h'
    cases h'
    rw [ho] at hc
    cases hc).trans h
theorem others_keep {S:Nat → Prop} {W W':World} (h:Keep S W W') (hS:∀ k o,S k → W.heap[k]? = some o → o.isCells = true):KeepsOthers W W':=
  ⟨h.size,fun k o hk ho => (h.block k (lt_of_block hk) fun hs => by rw [hS k o hs hk] at ho;cases ho).trans hk⟩
theorem wpListIn_mk {F:Fence} {m:Nat} {P:Program} {t e:TypeId} {z:Value} {bytes:Nat} (T:ElemT P t e z 1 bytes) (w:World) {ops:Array Oper} {rest:List Oper} {o:Oper} {a:Act} {Q:Exit → Act → World → Prop}
    (hg:o.guard = none) (l c:Operand) (hop:o.op = Op.makeSlice t l c) (hzc:z.cells = #[z])
    (n:Nat) (hl:a.eval l = .int .i64 (n:Int)) (hc:a.eval c = .int .i64 (n:Int)) (b2:bytes * n ≤ 281474976710656) (b3:n ≤ maxLen)
    (hK:∀ w',w'.ownsRow w.heap.size e 1 (.slice (some ⟨w.heap.size,0,none⟩) n n) n (List.replicate n z) → Below (w.heap.size) w w' →
      wpListIn F m P ops Q rest (a.put o.dst (.slice (some ⟨w.heap.size,0,none⟩) n n)) w'):wpListIn F m P ops Q (o :: rest) a w:=by
  obtain ⟨i,hi,hz0,hz1,hz2⟩:=T.info
  refine wpListIn_plain hg fun K hK' => ?_
  obtain ⟨w',hrun,r1,r2⟩:=run_make_full (P:=P) w w.heap.size t e i z 1 T.und hi hz0 hz1 .i64 .i64 n (by rw [hz2];exact b2) b3 (Nat.le_refl _)
  rw [hzc,Nat.mul_one,toList_madeCells_one] at r1
  unfold Oper.wpIn
  refine ⟨by simp [Oper.about,hop],?_⟩
  rw [Oper.semAt_plain F _ _ (by rw [hop];intro c hc';cases hc')]
  simp [execOp,hop,hl,hc,hrun,Result.andThen]
  exact hK' _ _ (hK w' r1 ⟨r2.os,r2.tape,r2.output,r2.size,fun k hk => r2.block k hk (by simp)⟩)
end Go.Proofs.YthamijnggdjaoaaGreatDoor
namespace Go.Proofs.YthamijnggdjaoaaGreatDoor
open Go.RowKit Go.Shelf
attribute [local go_sem] Oper.semAt_some
def rowEnc (g o c:Nat) {r:Nat} (k:Fin r):Array Value:=#[.int .i64 (k.1:Int),.slice (some ⟨g,o + k.1 * c,none⟩) c c]
def RowsKeep (n₀ Bm:Nat) (W W':World):Prop:=Below n₀ W W' ∧ (Bm < W.heap.size → W'.heap[Bm]? = W.heap[Bm]?)
theorem finTake {r k:Nat} (h:k < r):(List.finRange r).take (k + 1) = (List.finRange r).take k ++ [⟨k,h⟩]:=by
  rw [List.take_add_one]
  simp [h]
set_option maxRecDepth 100000 in
set_option maxHeartbeats 2000000 in
theorem rows1_in (n l Bm n₀ g o r c nn d:Nat) (hr:r ≤ 1048576) (hc:1 ≤ c ∧ c ≤ 1048576) (hnn:nn = r * c) (hd:nn ≤ d) (J Jx:List (Fin r) → World → Prop) (B:Nat) (hJ:AbidesFrom B J)
    (hY:∀ pre x W,J pre W → pre.length < r → YieldAt Fence.wide (n - 1) Tryz.prog l (rowEnc g o c x) W fun e W' =>
      (e = .returned (.bool true) ∧ J (pre ++ [x]) W' ∧ RowsKeep n₀ Bm W W') ∨ (e = .returned (.bool false) ∧ Jx (pre ++ [x]) W'))
    (W:World) (hBm:W.heap[Bm]? = some (.cells #[.int .i64 r,.int .i64 c,.slice (some ⟨g,o,none⟩) nn d] 133 (0,0))) (h0:J [] W) :
    CallsIn Fence.wide n Tryz.prog 248 #[.func (.yield l) #[] #[],.pointer (some ⟨Bm,0,none⟩)] W fun e W' => (∃ v,e = .returned v) ∧
      ((∃ ys,ys = List.finRange r ∧ J ys W') ∨ (∃ pre,True ∧ Jx pre W')):=by
  obtain ⟨⟨e0,e1,e2⟩,ef⟩:=bx3 hBm
  have HBm:=Lib.hid hBm;have Hnn:=Lib.hid hnn;clear hBm hnn
  refine callsIn_of_wp Tryz.func248 rfl trivial ?_ rfl
  simp only [Tryz.ntmps248,List.size_toArray,List.length_cons,List.length_nil,Nat.reduceAdd,Nat.reduceSub,Array.replicate_succ,Array.replicate_zero,List.push_toArray,List.append_toArray,List.nil_append,List.cons_append]
  gi_wp2
  gi_loopw [6] (fun i wr => ∃ k:Nat,k ≤ r ∧ i = .int .i64 k ∧ J ((List.finRange r).take k) wr ∧ wr.heap[Bm]? = some (.cells #[.int .i64 r,.int .i64 c,.slice (some ⟨g,o,none⟩) nn d] 133 (0,0)))
    (fun i _ => r - (intOf i).toNat)
  case atStart => exact ⟨0,Nat.zero_le _,rfl,h0,HBm.out⟩
  case round =>
    obtain ⟨k,hk,rfl,hJs,hBk⟩:=hrel
    clear e0 e1 e2 ef
    by_cases hlt:k < r
    · have hlen:((List.finRange r).take k).length < r:=by simp;omega
      obtain ⟨⟨e0,e1,e2⟩,ef⟩:=bx3 hBk
      have hrw:=row_any r c k g o nn d wr hr hc hlt Hnn.out hd
      have HJs:=Lib.hid hJs;have HBk:=Lib.hid hBk;have Hrw:=Lib.hid hrw;clear hJs hBk hrw
      gi_wp2_with fail
      refine ⟨trivial,(fun h => by cases h),?_⟩
      refine (callsIn_wide.2 Hrw.out).mono ?_
      rintro e w3 ⟨rfl,hb3⟩
      have hJ3:=hJ _ _ _ none HJs.out (grown_none hb3) (fun _ h => by cases h)
      have hBk3:=(hb3.block _ (lt_of_block HBk.out)).trans HBk.out
      obtain ⟨fn,tmps,assign,body,hy,hR⟩:=hY _ ⟨k,hlt⟩ w3 hJ3 hlen
      unfold rowEnc at hy
      dsimp only at hy
      have HBk3:=Lib.hid hBk3;clear hJ3 hBk3 hb3
      gi_wp2
      refine ⟨(fun h => by cases h),?_⟩
      refine hR.mono ?_
      rintro e w5 (⟨rfl,hJ5,hk5⟩ | ⟨rfl,hJx5⟩)
      · have hB5:=(hk5.2 (lt_of_block HBk3.out)).trans HBk3.out
        have HB5:=Lib.hid hB5;have HJ5:=Lib.hid hJ5;clear hB5 hJ5 hk5
        gi_wp2
        go_roundw
        case rel => exact ⟨k + 1,by omega,by go_num,by rw [finTake hlt];exact HJ5.out,HB5.out⟩
        case measure => simp [intOf];omega
      · gi_wp2
        refine bodyPost_ret (results_none rfl _ _ _) rfl ?_
        exact ⟨⟨_,rfl⟩,.inr ⟨_,trivial,hJx5⟩⟩
    · obtain rfl:k = r:=by omega
      have hall:(List.finRange k).take k = List.finRange k:=List.take_of_length_le (by simp)
      rw [hall] at hJs
      have HJs:=Lib.hid hJs;clear hJs hall
      gi_wp2
      go_end0
      exact ⟨⟨_,rfl⟩,.inl ⟨_,rfl,HJs.out⟩⟩
theorem rows_stops (n Bm n₀ g o r c nn d:Nat) (hr:r ≤ 1048576) (hc:1 ≤ c ∧ c ≤ 1048576) (hnn:nn = r * c) (hd:nn ≤ d) (w:World)
    (hBm:w.heap[Bm]? = some (.cells #[.int .i64 r,.int .i64 c,.slice (some ⟨g,o,none⟩) nn d] 133 (0,0))) :
    SeqStopsK Fence.wide n Tryz.prog 248 #[.pointer (some ⟨Bm,0,none⟩)] (rowEnc (r:=r) g o c) (RowsKeep n₀ Bm) (fun ys => ys = List.finRange r) (fun _ => True) r w:=fun l J Jx W hW hJ _ hY h0 =>
  rows1_in n l Bm n₀ g o r c nn d hr hc hnn hd J Jx _ hJ hY W ((hW.block _ (lt_of_block hBm)).trans hBm) h0
end Go.Proofs.YthamijnggdjaoaaGreatDoor
namespace Go.Proofs.YthamijnggdjaoaaGreatDoor
open Go.RowKit Go.Shelf
theorem rowsKeep_t {n₀ Bm:Nat} {A B C:World} (h:RowsKeep n₀ Bm A B) (k:RowsKeep n₀ Bm B C):RowsKeep n₀ Bm A C:=
  ⟨h.1.trans k.1,fun hb => (k.2 (Nat.lt_of_lt_of_le hb h.1.size)).trans (h.2 hb)⟩
theorem rowsKeep_b {n₀ Bm:Nat} {w:World} (hn:n₀ ≤ w.heap.size) (hb:Bm < w.heap.size) (W:World) (l:Nat) (o o':Obj) (hl:w.heap.size ≤ l) (h:W.heap[l]? = some o) (h1:o.isCells = false) (h2:o.isWalk = false):RowsKeep n₀ Bm W (W.putObj l o'):=
  ⟨belowK_b hn W l o o' hl h h1 h2,fun _ => (belowK_b (n₀:=Bm + 1) (by omega) W l o o' hl h h1 h2).block Bm (by omega)⟩
end Go.Proofs.YthamijnggdjaoaaGreatDoor
namespace Go.Proofs.YthamijnggdjaoaaGreatDoor
open Go.RowKit Go.Shelf
attribute [local go_sem] Oper.semAt_some
def mrow (ms:List Int) (c k:Nat):List Int:=upTo c fun j => nth ms (k * c + j)
def mulL (ms:List Int) (r c:Nat) (xs:List Int) (q:Int):List Int:=upTo r fun k => dotL (mrow ms c k) xs q
theorem mrow_len (ms:List Int) (c k:Nat):(mrow ms c k).length = c:=upTo_len _ _
theorem mrow_room {r c k:Nat} (hk:k < r):k * c + c ≤ r * c:=by
  have:=Nat.mul_le_mul_right c (show k + 1 ≤ r by omega)
  rwa [Nat.succ_mul] at this
theorem nth_drop (l:List Int) (m j:Nat):nth (l.drop m) j = nth l (m + j):=by simp [nth,List.getD_eq_getElem?_getD,List.getElem?_drop]
theorem nth_take {l:List Int} {m j:Nat} (h:j < m):nth (l.take m) j = nth l j:=by simp [nth,List.getD_eq_getElem?_getD,List.getElem?_take,h]
theorem mrow_eq {ms:List Int} {r c k:Nat} (hk:k < r) (hl:ms.length = r * c):(ms.drop (k * c)).take c = mrow ms c k:=by
  have:=mrow_room (c:=c) hk
  refine eq_upTo (by rw [List.length_take,List.length_drop];omega) fun j hj => ?_
  rw [nth_take hj,nth_drop]
theorem mrow_rd {W:World} {g o:Nat} {ms:List Int} {r c k:Nat} (h:Rd W (some ⟨g,o,none⟩) (nums .i64 ms)) (hk:k < r) (hl:ms.length = r * c):Rd W (some ⟨g,o + k * c,none⟩) (nums .i64 (mrow ms c k)):=by
  have:=(h.drop (k * c)).take c
  rwa [nums_drop,nums_take,mrow_eq hk hl] at this
theorem mrow_W64 {ms:List Int} {r c k:Nat} (h:W64 ms) (hk:k < r) (hl:ms.length = r * c):W64 (mrow ms c k):=upTo_W64 fun j hj => h _ (by have:=mrow_room (c:=c) hk;omega)
theorem mdot_any (r c k:Nat) (g o:Nat) (ms:List Int) (B:Option Addr) (xs:List Int) (e:Nat) (q:Int) (W:World) (hk:k < r) (hc:1 ≤ c ∧ c ≤ 1048576) (hms:ms.length = r * c)
    (hA:Rd W (some ⟨g,o,none⟩) (nums .i64 ms)) (wm:W64 ms) (hB:Rd W B (nums .i64 xs)) (hxl:xs.length = c) (wx:W64 xs) :
    Calls Tryz.prog 68 #[.slice (some ⟨g,o + k * c,none⟩) c c,.slice B c e,.int .i64 q] W fun e w' => e = .returned (.tuple #[.int .i64 (dotL (mrow ms c k) xs q),.bool true]) ∧ Below W.heap.size W w':=by
  have:=dot_any (some ⟨g,o + k * c,none⟩) B (mrow ms c k) xs c e q W (mrow_rd hA hk hms) hB (by rw [mrow_len,hxl]) (by rw [mrow_len];omega) (mrow_W64 wm hk hms) wx
  rwa [mrow_len,hxl] at this
theorem mulL_fin (ms:List Int) (r c:Nat) (xs:List Int) (q:Int):((List.finRange r).map fun k => dotL (mrow ms c k.1) xs q) = mulL ms r c xs q:=by
  refine eq_upTo (by simp) fun k hk => ?_
  rw [nth_eq _ _ (by simpa using hk)]
  simp
set_option maxRecDepth 100000 in
set_option maxHeartbeats 2000000 in
theorem mmul_any (r c:Nat) (g o nn d:Nat) (ms:List Int) (B:Option Addr) (xs:List Int) (e:Nat) (q:Int) (w:World) (hr:1 ≤ r ∧ r ≤ 1048576) (hc:1 ≤ c ∧ c ≤ 1048576) (hnn:nn = r * c) (hd:nn ≤ d) (hm:nn ≤ 17592186043904)
    (hms:ms.length = nn) (hA:Rd w (some ⟨g,o,none⟩) (nums .i64 ms)) (wm:W64 ms) (hB:Rd w B (nums .i64 xs)) (hxl:xs.length = c) (wx:W64 xs) :
    Calls Tryz.prog 155 #[.agg #[.int .i64 r,.int .i64 c,.slice (some ⟨g,o,none⟩) nn d],.slice B c e,.int .i64 q] w fun e w' => ∃ A' c',e = .returned (.tuple #[.slice A' r c',.bool true]) ∧ w'.ownsRow w.heap.size 2 1 (.slice A' r c') r (nums .i64 (mulL ms r c xs q)) ∧ Below w.heap.size w w':=by
  have hrt:=fun w' => right_any r c (some ⟨g,o,none⟩) nn d w' hr hc hnn hm
  have hrw:=fun cs w' => rows_any cs w'
  have Hrt:=Lib.hid hrt;have Hrw:=Lib.hid hrw;have Hnn:=Lib.hid hnn;have Hms:=Lib.hid hms;have Hxl:=Lib.hid hxl;have HA:=Lib.hid hA;have HB:=Lib.hid hB;have WM:=Lib.hid wm;have WX:=Lib.hid wx;clear hrt hrw hnn hms hxl hA hB wm wx
  refine (callsIn_wide (n:=3)).1 ?_
  refine callsIn_of_wp_marks Tryz.func155 rfl trivial ?_ rfl
  simp only [Tryz.ntmps155,List.size_toArray,List.length_cons,List.length_nil,Nat.reduceAdd,Nat.reduceSub,Array.replicate_succ,Array.replicate_zero,List.push_toArray,List.append_toArray,List.nil_append,List.cons_append]
  gi_wp2_with fail
  refine ⟨trivial,?_⟩
  refine (callsIn_wide.2 (Hrt.out _)).mono ?_
  rintro e w1 ⟨rfl,rfl⟩
  gi_wp2_with fail
  refine ⟨trivial,?_⟩
  refine (callsIn_wide.2 (Hrw.out _ _)).mono ?_
  rintro e w2 ⟨rfl,rfl⟩
  gi_wp2_with fail
  obtain ⟨W0,hW0⟩:∃ W0,W0 = ((((w.alloc (.cells #[.int .i64 r,.int .i64 c,.slice (some ⟨g,o,none⟩) nn d] 133)).alloc (.cells #[.slice B c e] 65)).alloc (.cells #[.int .i64 q] 3)).alloc (.cells #[.int .i64 r,.int .i64 c,.slice (some ⟨g,o,none⟩) nn d] 133)):=⟨_,rfl⟩
  have hs0:W0.heap.size = w.heap.size + 1 + 1 + 1 + 1:=by rw [hW0];simp
  have b4:Boxed W0 (w.heap.size + 1) 65 (.slice B c e):=by
    rw [hW0]
    have:=((Boxed.new (w.alloc (.cells #[.int .i64 r,.int .i64 c,.slice (some ⟨g,o,none⟩) nn d] 133)) 65 (.slice B c e)).alloc (.cells #[.int .i64 q] 3)).alloc (.cells #[.int .i64 r,.int .i64 c,.slice (some ⟨g,o,none⟩) nn d] 133)
    simpa using this
  have b5:Boxed W0 (w.heap.size + 1 + 1) 3 (.int .i64 q):=by
    rw [hW0]
    have:=(Boxed.new ((w.alloc (.cells #[.int .i64 r,.int .i64 c,.slice (some ⟨g,o,none⟩) nn d] 133)).alloc (.cells #[.slice B c e] 65)) 3 (.int .i64 q)).alloc (.cells #[.int .i64 r,.int .i64 c,.slice (some ⟨g,o,none⟩) nn d] 133)
    simpa using this
  have hbel0:Below w.heap.size w W0:=by rw [hW0];exact ((((Below.refl _ w).alloc (Nat.le_refl _) _).alloc (by simp) _).alloc (by simp;omega) _).alloc (by simp;omega) _
  rw [← hW0,← hs0]
  have bO:=(Boxed.new W0 65 (.slice none 0 0)).alloc (.cells #[.int .i64 r,.int .i64 c,.slice (some ⟨g,o,none⟩) nn d] 133)
  have bM:((W0.alloc (.cells #[.slice none 0 0] 65)).alloc (.cells #[.int .i64 r,.int .i64 c,.slice (some ⟨g,o,none⟩) nn d] 133)).heap[W0.heap.size + 1]? = some (.cells #[.int .i64 r,.int .i64 c,.slice (some ⟨g,o,none⟩) nn d] 133 (0,0)):=by
    have:=heap_alloc_new (W0.alloc (.cells #[.slice none 0 0] 65)) (.cells #[.int .i64 r,.int .i64 c,.slice (some ⟨g,o,none⟩) nn d] 133)
    simpa using this
  have HS0:=Lib.hid hs0;have HBl0:=Lib.hid hbel0;have HbM:=Lib.hid bM;clear hW0
  clear hs0 hbel0 bM
  refine' wpIn_rangeFunc_ownG (F:=Fence.wide) (n:=3) rfl (by omega) (gf:=248) (lb:=#[.pointer (some ⟨W0.heap.size + 1,0,none⟩)]) rfl trivial (enters_of Tryz.func248 (by kernel_rfl) rfl)
    (rows_stops _ (W0.heap.size + 1) w.heap.size g o r c nn d hr.2 hc Hnn.out hd _ HbM.out) rowsKeep_t (rowsKeep_b (by have:=HBl0.out.size;simp;omega) (by simp)) (Below.refl _ _) (fun _ => rfl)
    (fun (pre:List (Fin r)) W => ((∃ v,Boxed W W0.heap.size 65 v ∧ W.ownsRow w.heap.size 2 1 v pre.length (nums .i64 (pre.map fun k => dotL (mrow ms c k.1) xs q)) ∧ True) ∧ Boxed W (w.heap.size + 1) 65 (.slice B c e) ∧ Boxed W (w.heap.size + 1 + 1) 3 (.int .i64 q) ∧ W.heap[W0.heap.size + 1]? = some (.cells #[.int .i64 r,.int .i64 c,.slice (some ⟨g,o,none⟩) nn d] 133 (0,0))) ∧ Below w.heap.size w W)
    (fun _ _ _ => False)
    (OwnFrom.and (OwnFrom.and (Own.from (holdsRow_own w.heap.size W0.heap.size 65 2 1 (fun pre:List (Fin r) => pre.length) (fun pre => nums .i64 (pre.map fun k => dotL (mrow ms c k.1) xs q)) (fun _ _ => True)) _) (OwnFrom.and (ownFrom_block _ _ _ rfl) (OwnFrom.and (ownFrom_block _ _ _ rfl) (ownFrom_block _ _ _ rfl)))) (ownFrom_below (Nat.le_refl _) (by have:=HBl0.out.size;simp;omega)))
    (fun _ _ _ _ _ hs _ _ => hs)
    ⟨⟨⟨_,bO,World.ownsRow_nil _ _ _ _,trivial⟩,(b4.alloc _).alloc _,(b5.alloc _).alloc _,HbM.out⟩,(HBl0.out.alloc (by have:=HBl0.out.size;omega) _).alloc (by have:=HBl0.out.size;simp;omega) _⟩
    _ ?assign ?body ?done ?stop
  case assign =>
    intro l x W K hK
    unfold rowEnc
    gi_wp2
    exact hK
  case body =>
    rintro l pre x W ⟨⟨⟨v,hv,hrow,_⟩,hx4,hx5,hxM⟩,hBl⟩ hlt
    have hc4:=hx4.cell
    have hc5:=hx5.cell
    have Hv:=Lib.hid hv;have Hrow:=Lib.hid hrow;have HM:=Lib.hid hxM;have HBl:=Lib.hid hBl;have H4:=Lib.hid hx4;have H5:=Lib.hid hx5;have Hlt:=Lib.hid hlt;clear hv hrow hxM hBl hx4 hx5 hlt
    gi_wp2_with fail
    refine ⟨trivial,?_⟩
    refine (CallsIn.inRound l (callsIn_wide.2 (mdot_any r c x.1 g o ms B xs _ q W x.2 hc (Hms.out.trans Hnn.out) (HA.out.below HBl.out) WM.out (HB.out.below HBl.out) Hxl.out WX.out))).mono ?_
    rintro e w3 ⟨rfl,hb3⟩
    have hv3:Boxed w3 W0.heap.size 65 v:=(hb3.block _ (Boxed.lt Hv.out)).trans Hv.out
    have hc3:=hv3.cell
    have hrow3:=own_below Hrow.out hb3
    have hs3:w.heap.size ≤ w3.heap.size:=Nat.le_trans HBl.out.size hb3.size
    have hsO:w.heap.size ≤ W0.heap.size:=HBl0.out.size
    have hpl:pre.length < r:=Hlt.out
    have hxM3:=(hb3.block _ (lt_of_block HM.out)).trans HM.out
    have hx43:=(hb3.block _ (lt_of_block H4.out)).trans H4.out
    have hx53:=(hb3.block _ (lt_of_block H5.out)).trans H5.out
    have HxM3:=Lib.hid hxM3;have Hx43:=Lib.hid hx43;have Hx53:=Lib.hid hx53
    have Hv3:=Lib.hid hv3;have Hb3:=Lib.hid hb3;have Hrow3:=Lib.hid hrow3;have Hs3:=Lib.hid hs3;have HsO:=Lib.hid hsO;have Hpl:=Lib.hid hpl;clear hv3 hb3 hrow3 hs3 hsO hpl hxM3 hx43 hx53 hc4 hc5
    obtain ⟨dv,hdv⟩:∃ dv,dv = dotL (mrow ms c x.1) xs q:=⟨_,rfl⟩
    have Hdv:=Lib.hid hdv
    rw [← hdv]
    clear hdv
    gi_wp2_with (gi_at_builtin;refine wpListIn_push et_vec w3 rfl (.tmp 34) (.tmp 36) rfl w.heap.size W0.heap.size v pre.length _ rfl Hv3.out (by decide) Hrow3.out [.int .i64 dv] rfl rfl (nums_cell .i64 [dv]) (by have:=Hpl.out;have:=hr.2;omega) (by have:=Hpl.out;have:=hr.2;unfold maxLen;omega) Hs3.out HsO.out ?_)
    intro g1 c1 w1 k1 k2 k3 k4 k5 k6
    have hc1:=k1.cell;have hf1:=k1.frozen
    have K2:=Lib.hid k2;have K3:=Lib.hid k3;have K4:=Lib.hid k4;have K5:=Lib.hid k5;have K6:=Lib.hid k6;clear k1 k2 k3 k4 k5 k6 hc3
    gi_wp2_with fail
    have hbW:Below w.heap.size W (w1.setCell ⟨W0.heap.size,0,none⟩ (.slice (some ⟨g1,0,none⟩) (pre.length + 1) c1)):=(Hb3.out.mono HBl.out.size).trans K5.out
    have hne1:W0.heap.size + 1 ≠ W0.heap.size:=by omega
    have hne2:w.heap.size + 1 ≠ W0.heap.size:=by have:=HS0.out;omega
    have hne3:w.heap.size + 1 + 1 ≠ W0.heap.size:=by have:=HS0.out;omega
    have hM1:=K6.out _ _ _ _ _ hne1 (by decide) HxM3.out
    refine ⟨((KeepsOthers.of_grownBy (row:=none) (grown_none Hb3.out) (fun _ _ h => by cases h)).trans K4.out).from _,⟨hbW,fun _ => hM1.trans HM.out.symm⟩,⟨⟨_,K2.out,?_,trivial⟩,K6.out _ _ _ _ _ hne2 (by decide) Hx43.out,K6.out _ _ _ _ _ hne3 (by decide) Hx53.out,hM1⟩,HBl.out.trans hbW⟩
    have h:=K3.out
    rw [Hdv.out] at h
    simpa [nums] using h
  case done =>
    rintro D ys W hD rfl ⟨⟨⟨v,hv,hrow,_⟩,hx4,hx5,hxM⟩,hBl⟩ hK
    have hc:=hv.cell
    gi_wp2
    refine ⟨by simp,.inl ⟨_,_,rfl,run_takeDeferred hK,?_⟩⟩
    obtain ⟨A',c',rfl,_⟩:=own_form hrow
    rw [List.length_finRange,mulL_fin] at *
    refine ⟨.tuple #[.slice A' r c',.bool true],by simp [results,Tryz.results155,go_sem],A',c',rfl,ownsRow_putObj hrow _ hK rfl,hBl.trans (belowK_b (w:=w) (Nat.le_refl _) W D _ _ (by have:=HBl0.out.size;simp at hD;omega) hK rfl rfl)⟩
  case stop =>
    rintro D c pre W _ _ h _
    exact h.elim
end Go.Proofs.YthamijnggdjaoaaGreatDoor
namespace Go.Proofs.YthamijnggdjaoaaGreatDoor
open Go.RowKit
def reluL (l:List Int):List Int:=upTo l.length fun i => max (nth l i) 0
def zL (sz ps:List Int) (q:Int) (k:Nat) (v:List Int):List Int:=addL (mulL (wL sz ps k) (szN sz (k + 1)) (szN sz k) v q) (bL sz ps k)
def valL (sz ps:List Int) (q:Int) (x:List Int):Nat → List Int
  | 0 => x
  | k + 1 => if k + 1 < sz.length - 1 then reluL (zL sz ps q k (valL sz ps q x k)) else zL sz ps q k (valL sz ps q x k)
theorem W64.nth {l:List Int} (h:W64 l) (k:Nat):-9223372036854775808 ≤ nth l k ∧ nth l k ≤ 9223372036854775807:=by
  by_cases hk:k < l.length
  · exact h k hk
  · have:Go.Proofs.YthamijnggdjaoaaGreatDoor.nth l k = 0:=by unfold Go.Proofs.YthamijnggdjaoaaGreatDoor.nth;simp [List.getD,List.getElem?_eq_none (show l.length ≤ k by omega)]
    omega
theorem wL_W64 {ps:List Int} (h:W64 ps) (sz:List Int) (k:Nat):W64 (wL sz ps k):=upTo_W64 fun _ _ => h.nth _
theorem mulL_len (ms:List Int) (r c:Nat) (xs:List Int) (q:Int):(mulL ms r c xs q).length = r:=upTo_len _ _
theorem addL_len (xs ys:List Int):(addL xs ys).length = xs.length:=upTo_len _ _
theorem addL_W64 (xs ys:List Int):W64 (addL xs ys):=upTo_W64 fun _ _ => wrap64_bd _
theorem reluL_len (l:List Int):(reluL l).length = l.length:=upTo_len _ _
theorem reluL_W64 {l:List Int} (h:W64 l):W64 (reluL l):=upTo_W64 fun k _ => by have:=h.nth k;omega
theorem zL_len (sz ps:List Int) (q:Int) (k:Nat) (v:List Int):(zL sz ps q k v).length = szN sz (k + 1):=by unfold zL;rw [addL_len,mulL_len]
theorem zL_W64 (sz ps:List Int) (q:Int) (k:Nat) (v:List Int):W64 (zL sz ps q k v):=addL_W64 _ _
theorem valL_len {sz ps:List Int} {q:Int} {x:List Int} (h:x.length = szN sz 0) (k:Nat):(valL sz ps q x k).length = szN sz k:=by
  cases k with
  | zero => exact h
  | succ k =>
    unfold valL
    split
    · rw [reluL_len,zL_len]
    · rw [zL_len]
theorem valL_W64 {sz ps:List Int} {q:Int} {x:List Int} (h:W64 x) (k:Nat):W64 (valL sz ps q x k):=by
  cases k with
  | zero => exact h
  | succ k =>
    unfold valL
    split
    · exact reluL_W64 (zL_W64 _ _ _ _ _)
    · exact zL_W64 _ _ _ _ _
def VecsAt (w:World) (vals:List Value) (n:Nat) (f:Nat → List Int):Prop:=vals.length = n ∧ ∀ j,j < n → ∃ A c,vals[j]? = some (.slice A (f j).length c) ∧ (f j).length ≤ c ∧ Rd w A (nums .i64 (f j))
theorem VecsAt.below {w w':World} {vals:List Value} {n:Nat} {f:Nat → List Int} (h:VecsAt w vals n f) (hb:Below w.heap.size w w'):VecsAt w' vals n f:=
  ⟨h.1,fun j hj => by obtain ⟨A,c,h1,h2,h3⟩:=h.2 j hj;exact ⟨A,c,h1,h2,h3.below hb⟩⟩
end Go.Proofs.YthamijnggdjaoaaGreatDoor
namespace Go.Proofs.YthamijnggdjaoaaGreatDoor
open Go.RowKit
structure RNet (w:World) (As Ap:Option Addr) (sz ps:List Int) (cs:Nat):Prop where
  hA:Rd w As (nums .i64 sz)
  hP:Rd w Ap (nums .i64 ps)
  hg:GoodSz sz
  hl:ps.length = cntN sz (sz.length - 1)
  hc:sz.length ≤ cs
  wp:W64 ps
theorem RNet.below {w w':World} {As Ap:Option Addr} {sz ps:List Int} {cs:Nat} (h:RNet w As Ap sz ps cs) (hb:Below w.heap.size w w'):RNet w' As Ap sz ps cs:=⟨h.hA.below hb,h.hP.below hb,h.hg,h.hl,h.hc,h.wp⟩
theorem rlast_any (As Ap:Option Addr) (n m cs cp:Nat) (q:Int) (w:World) (hn:1 ≤ n ∧ n ≤ 1000):Calls Tryz.prog 124 #[.agg #[.slice As n cs,.slice Ap m cp,.int .i64 q]] w fun e w' => e = .returned (.int .i64 ((n - 1:Nat):Int)) ∧ Below w.heap.size w w':=by
  obtain ⟨h1,h2⟩:=hn
  have hw:IntKind.i64.wrap ((n:Int) - 1) = ((n - 1:Nat):Int):=by rw [IntWalk.i64_in _ (by omega)];omega
  have hw2:(n:Int) - 1 = ((n - 1:Nat):Int):=by omega
  rw [hw2] at hw
  go_enter Tryz.func124,Tryz.ntmps124
  go_wp2
  go_ret
  refine ⟨by first | rfl | (rw [hw2];rfl),?_⟩
  (focus (repeat' (first | (with_reducible exact Below.refl _ _) | (with_reducible assumption) | (with_reducible refine Below.setCell ?_ ?_ _) | (with_reducible refine Below.alloc ?_ ?_ _) | (with_reducible refine below_drewN ?_ _) | (with_reducible refine Below.drew ?_) | (with_reducible exact Nat.le_refl _) | omega | (simp;done) | (simp;omega))))
set_option maxHeartbeats 400000 in
theorem rweight_any (As Ap:Option Addr) (sz ps:List Int) (cs cp k r c:Nat) (q:Int) (w:World) (h:RNet w As Ap sz ps cs) (hk:k + 1 < sz.length) (hr:r < szN sz (k + 1)) (hc:c < szN sz k) :
    Calls Tryz.prog 165 #[.agg #[.slice As sz.length cs,.slice Ap ps.length cp,.int .i64 q],.int .i64 k,.int .i64 r,.int .i64 c] w fun e w' => e = .returned (.int .i64 (nth ps (cntN sz k + r * szN sz k + c))) ∧ Below w.heap.size w w':=by
  have hR:=h.hg.1
  have hl16:=hR.1.2
  have z0:=hR.at (k:=k) (by omega)
  have hmul:=h.hg.mul hk
  have hin:cntN sz k + r * szN sz k + c < ps.length:=by
    have h1:=midN_eq sz k
    have h2:=cntN_mono sz (show k + 1 ≤ sz.length - 1 by omega)
    have h3:r * szN sz k + szN sz k ≤ szN sz (k + 1) * szN sz k:=by
      have:=Nat.mul_le_mul_right (szN sz k) (show r + 1 ≤ szN sz (k + 1) by omega)
      rwa [Nat.succ_mul] at this
    have h4:=h.hl
    unfold midN at h1
    omega
  have hwt:=fun w' (hb:Below w.heap.size w w') => rweights_any As sz k cs w' (h.hA.below hb) hR hk h.hc
  have hpl:ps.length ≤ 1048576:=by rw [h.hl];exact h.hg.2
  obtain ⟨b,o,rfl,p0⟩:=h.hA.num (show k < sz.length by omega)
  obtain ⟨b2,o2,rfl,p2⟩:=h.hP.num hin
  have hrc:r * szN sz k ≤ szN sz (k + 1) * szN sz k:=Nat.mul_le_mul_right _ (by omega)
  rw [z0.2.2] at p0
  obtain ⟨a,ha⟩:∃ a,szN sz k = a:=⟨_,rfl⟩
  obtain ⟨N,hN⟩:∃ N,cntN sz k = N:=⟨_,rfl⟩
  obtain ⟨n,hn⟩:∃ n,sz.length = n:=⟨_,rfl⟩
  obtain ⟨m,hm⟩:∃ m,ps.length = m:=⟨_,rfl⟩
  rw [ha] at p0 p2 hin hc hrc z0 ⊢
  rw [hN] at p2 hin hwt ⊢
  rw [hn] at hwt hk hl16 ⊢
  rw [hm] at hin hpl ⊢
  obtain ⟨ra,hra⟩:∃ ra,r * a = ra:=⟨_,rfl⟩
  rw [hra] at p2 hin hrc ⊢
  have hbl:b < w.heap.size:=lt_of_cell p0
  have hbl2:b2 < w.heap.size:=lt_of_cell p2
  have hpp:(r:Int) * (a:Int) = (ra:Int):=by rw [← hra];push_cast;rfl
  have Hwt:=Lib.hid hwt
  clear hwt h hR hmul hrc z0 hn hm hN ha hra hr
  have hw1:IntKind.i64.wrap ((r:Int) * (a:Int)) = (ra:Int):=by rw [hpp];exact IntWalk.i64_in _ (by omega)
  have hw2:IntKind.i64.wrap ((N:Int) + (ra:Int)) = (N:Int) + ra:=IntWalk.i64_in _ (by omega)
  have hw3:IntKind.i64.wrap ((N:Int) + (ra:Int) + (c:Int)) = (N:Int) + ra + c:=IntWalk.i64_in _ (by omega)
  have hi1:(0:Int) ≤ (N:Int) + ra + c:=by omega
  have hi2:(N:Int) + ra + c < m:=by omega
  have hi3:((N:Int) + ra + c).toNat = N + ra + c:=by omega
  have hi4:(k:Int) < n:=by omega
  have hi5:k < n:=by omega
  have hfd:=rrng_lo
  clear hpp
  go_enter Tryz.func165,Tryz.ntmps165
  go_wp2_with fail
  go_region_held3 (fun w' => w'.cell? ⟨w.heap.size,0,none⟩ = some (.slice (some ⟨b,o,none⟩) n cs) ∧ w'.cell? ⟨w.heap.size,1,none⟩ = some (.slice (some ⟨b2,o2,none⟩) m cp) ∧ w'.cell? ⟨b,o + k,none⟩ = some (.int .i64 a) ∧ w'.cell? ⟨b2,o2 + (N + ra + c),none⟩ = some (.int .i64 (nth ps (N + ra + c)))) (simp [go_sem,World.cell?_alloc_past, *])
    ((go_at_call 212;refine (Hwt.out _ ?_).mono ?_;(focus ((focus (repeat' (first | (with_reducible exact Below.refl _ _) | (with_reducible assumption) | (with_reducible refine Below.setCell ?_ ?_ _) | (with_reducible refine Below.alloc ?_ ?_ _) | (with_reducible refine below_drewN ?_ _) | (with_reducible refine Below.drew ?_) | (with_reducible exact Nat.le_refl _) | omega | (simp;done) | (simp;omega))));done));rintro e w1 ⟨rfl,hb1⟩;have hB1:Below w.heap.size w w1:=Below.trans (by (focus (repeat' (first | (with_reducible exact Below.refl _ _) | (with_reducible assumption) | (with_reducible refine Below.setCell ?_ ?_ _) | (with_reducible refine Below.alloc ?_ ?_ _) | (with_reducible refine below_drewN ?_ _) | (with_reducible refine Below.drew ?_) | (with_reducible exact Nat.le_refl _) | omega | (simp;done) | (simp;omega))))) (hb1.mono (by simp));have g0:=cell_below hb1 (cell_of_row _ w.heap.size 0 _ _ _ (heap_alloc_new w (.cells #[.slice (some ⟨b,o,none⟩) n cs,.slice (some ⟨b2,o2,none⟩) m cp,.int .i64 q] 165)));have g1:=cell_below hb1 (cell_of_row _ w.heap.size 1 _ _ _ (heap_alloc_new w (.cells #[.slice (some ⟨b,o,none⟩) n cs,.slice (some ⟨b2,o2,none⟩) m cp,.int .i64 q] 165)));have g2:=(hB1.cell (p:=⟨b,o + k,none⟩) hbl).trans p0;have g3:=(hB1.cell (p:=⟨b2,o2 + (N + ra + c),none⟩) hbl2).trans p2;have HB1:=Lib.hid hB1;clear hb1 hB1))
  go_wp2_with fail
  go_ret
  exact ⟨rfl,HB1.out⟩
set_option maxHeartbeats 400000 in
theorem rbias_any (As Ap:Option Addr) (sz ps:List Int) (cs cp k r:Nat) (q:Int) (w:World) (h:RNet w As Ap sz ps cs) (hk:k + 1 < sz.length) (hr:r < szN sz (k + 1)) :
    Calls Tryz.prog 213 #[.agg #[.slice As sz.length cs,.slice Ap ps.length cp,.int .i64 q],.int .i64 k,.int .i64 r] w fun e w' => e = .returned (.int .i64 (nth ps (midN sz k + r))) ∧ Below w.heap.size w w':=by
  have hR:=h.hg.1
  have hl16:=hR.1.2
  have hin:midN sz k + r < ps.length:=by
    have h1:=midN_eq sz k
    have h2:=cntN_mono sz (show k + 1 ≤ sz.length - 1 by omega)
    have h4:=h.hl
    omega
  have hbi:=fun w' (hb:Below w.heap.size w w') => rbiases_any As sz k cs w' (h.hA.below hb) hR hk h.hc
  have hpl:ps.length ≤ 1048576:=by rw [h.hl];exact h.hg.2
  obtain ⟨b,o,rfl,p0⟩:=h.hA.num (show k < sz.length by omega)
  obtain ⟨b2,o2,rfl,p2⟩:=h.hP.num hin
  obtain ⟨M,hM⟩:∃ M,midN sz k = M:=⟨_,rfl⟩
  obtain ⟨n,hn⟩:∃ n,sz.length = n:=⟨_,rfl⟩
  obtain ⟨m,hm⟩:∃ m,ps.length = m:=⟨_,rfl⟩
  rw [hM] at p2 hin hbi ⊢
  rw [hn] at hbi hk hl16 ⊢
  rw [hm] at hin hpl ⊢
  have hbl2:b2 < w.heap.size:=lt_of_cell p2
  have Hbi:=Lib.hid hbi
  clear hbi h hR hn hm hM hr p0
  have hw2:IntKind.i64.wrap ((M:Int) + (r:Int)) = (M:Int) + r:=IntWalk.i64_in _ (by omega)
  have hi1:(0:Int) ≤ (M:Int) + r:=by omega
  have hi2:(M:Int) + r < m:=by omega
  have hi3:((M:Int) + r).toNat = M + r:=by omega
  have hfd:=rrng_lo
  go_enter Tryz.func213,Tryz.ntmps213
  go_wp2_with fail
  go_region_held3 (fun w' => w'.cell? ⟨w.heap.size,0,none⟩ = some (.slice (some ⟨b,o,none⟩) n cs) ∧ w'.cell? ⟨w.heap.size,1,none⟩ = some (.slice (some ⟨b2,o2,none⟩) m cp) ∧ w'.cell? ⟨b2,o2 + (M + r),none⟩ = some (.int .i64 (nth ps (M + r)))) (simp [go_sem,World.cell?_alloc_past, *])
    ((go_at_call 250;refine (Hbi.out _ ?_).mono ?_;(focus ((focus (repeat' (first | (with_reducible exact Below.refl _ _) | (with_reducible assumption) | (with_reducible refine Below.setCell ?_ ?_ _) | (with_reducible refine Below.alloc ?_ ?_ _) | (with_reducible refine below_drewN ?_ _) | (with_reducible refine Below.drew ?_) | (with_reducible exact Nat.le_refl _) | omega | (simp;done) | (simp;omega))));done));rintro e w1 ⟨rfl,hb1⟩;have hB1:Below w.heap.size w w1:=Below.trans (by (focus (repeat' (first | (with_reducible exact Below.refl _ _) | (with_reducible assumption) | (with_reducible refine Below.setCell ?_ ?_ _) | (with_reducible refine Below.alloc ?_ ?_ _) | (with_reducible refine below_drewN ?_ _) | (with_reducible refine Below.drew ?_) | (with_reducible exact Nat.le_refl _) | omega | (simp;done) | (simp;omega))))) (hb1.mono (by simp));have g0:=cell_below hb1 (cell_of_row _ w.heap.size 0 _ _ _ (heap_alloc_new w (.cells #[.slice (some ⟨b,o,none⟩) n cs,.slice (some ⟨b2,o2,none⟩) m cp,.int .i64 q] 165)));have g1:=cell_below hb1 (cell_of_row _ w.heap.size 1 _ _ _ (heap_alloc_new w (.cells #[.slice (some ⟨b,o,none⟩) n cs,.slice (some ⟨b2,o2,none⟩) m cp,.int .i64 q] 165)));have g3:=(hB1.cell (p:=⟨b2,o2 + (M + r),none⟩) hbl2).trans p2;have HB1:=Lib.hid hB1;clear hb1 hB1))
  go_wp2_with fail
  go_ret
  exact ⟨rfl,HB1.out⟩
def sumN (sz ps:List Int) (q:Int) (k r:Nat) (v:List Int):Nat → Int
  | 0 => nth ps (midN sz k + r)
  | c + 1 => wrap64 (sumN sz ps q k r v c + mulQ (nth ps (cntN sz k + r * szN sz k + c)) (nth v c) q)
set_option maxHeartbeats 1000000 in
theorem rsum_any (As Ap:Option Addr) (sz ps:List Int) (cs cp k r:Nat) (q:Int) (V:Option Addr) (v:List Int) (cv:Nat) (w:World) (h:RNet w As Ap sz ps cs) (hk:k + 1 < sz.length) (hr:r < szN sz (k + 1)) (hV:Rd w V (nums .i64 v)) (hv:v.length = szN sz k) (wv:W64 v) :
    Calls Tryz.prog 167 #[.agg #[.slice As sz.length cs,.slice Ap ps.length cp,.int .i64 q],.int .i64 k,.int .i64 r,.slice V v.length cv] w fun e w' => e = .returned (.int .i64 (sumN sz ps q k r v v.length)) ∧ Below w.heap.size w w':=by
  have hbi:=fun w' (hb:Below w.heap.size w w') => rbias_any As Ap sz ps cs cp k r q w' (h.below hb) hk hr
  have hwe:=fun c (hc:c < szN sz k) w' (hb:Below w.heap.size w w') => rweight_any As Ap sz ps cs cp k r c q w' (h.below hb) hk hr hc
  have hvb:v.length ≤ 1048576:=by rw [hv];exact (h.hg.1.at (k:=k) (by omega)).2.1
  obtain ⟨n,hn⟩:∃ n,sz.length = n:=⟨_,rfl⟩
  obtain ⟨m,hm⟩:∃ m,ps.length = m:=⟨_,rfl⟩
  obtain ⟨x,hx⟩:∃ x,v.length = x:=⟨_,rfl⟩
  rw [hn,hm] at hbi hwe ⊢
  rw [hx] at hvb ⊢
  have Hbi:=Lib.hid hbi;have Hwe:=Lib.hid hwe;have HV:=Lib.hid hV;have Hv:=Lib.hid hv;have Hx:=Lib.hid hx;have WV:=Lib.hid wv;have WP:=Lib.hid h.wp
  clear hbi hwe hV hv hx wv h hn hm hr hk
  go_enter Tryz.func167,Tryz.ntmps167
  go_wp2_with fail
  refine (Hbi.out _ ?_).mono ?_
  · (focus (repeat' (first | (with_reducible exact Below.refl _ _) | (with_reducible assumption) | (with_reducible refine Below.setCell ?_ ?_ _) | (with_reducible refine Below.alloc ?_ ?_ _) | (with_reducible refine below_drewN ?_ _) | (with_reducible refine Below.drew ?_) | (with_reducible exact Nat.le_refl _) | omega | (simp;done) | (simp;omega))))
  rintro e w1 ⟨rfl,hb1⟩
  have hbx:=(hb1.block w.heap.size (by simp)).trans (heap_alloc_new w (.cells #[.slice As n cs,.slice Ap m cp,.int .i64 q] 165))
  have hB1:Below w.heap.size w w1:=((Below.refl _ w).alloc (Nat.le_refl _) _).trans (hb1.mono (by simp))
  have Hbx:=Lib.hid hbx;have HB1:=Lib.hid hB1;clear hb1 hbx hB1
  go_wp2_with fail
  go_loopw [9,10] (fun s i wr => ∃ c:Nat,c ≤ x ∧ i = .int .i64 c ∧ s = .int .i64 (sumN sz ps q k r v c) ∧ wr.heap[w.heap.size]? = some (.cells #[.slice As n cs,.slice Ap m cp,.int .i64 q] 165 (0,0)) ∧ Below w.heap.size w wr) (fun _ i _ => x - (intOf i).toNat)
  case atStart => exact ⟨0,Nat.zero_le _,rfl,rfl,Hbx.out,HB1.out⟩
  case round =>
    obtain ⟨c,hc,rfl,rfl,hbx,hW⟩:=hrel
    by_cases hlt:c < x
    · obtain ⟨bv,ov,rfl,pv⟩:=HV.out.num (show c < v.length by rw [Hx.out];exact hlt)
      have hbv:bv < w.heap.size:=lt_of_cell pv
      have pvr:=(hW.cell (p:=⟨bv,ov + c,none⟩) hbv).trans pv
      obtain ⟨⟨x0,x1,x2⟩,xf⟩:=bx3 hbx
      have hbxl:=lt_of_block hbx
      have hbvr:bv < wr.heap.size:=by have:=hW.size;omega
      have hwe:=Hwe.out c (by have:=Hv.out;have:=Hx.out;omega)
      have hmu:=fun w' => refMul (nth ps (cntN sz k + r * szN sz k + c)) (nth v c) q w' (WP.out.nth _) (WV.out.nth _)
      have Hwk:=Lib.hid hwe;have Hmu:=Lib.hid hmu;have HW:=Lib.hid hW;have Hbx:=Lib.hid hbx
      clear hwe hmu hW hbx pv
      have hci:(c:Int) < x:=by omega
      go_wp2_with fail
      go_region_held3 (fun w' => w'.cell? ⟨w.heap.size,0,none⟩ = some (.slice As n cs) ∧ w'.cell? ⟨w.heap.size,1,none⟩ = some (.slice Ap m cp) ∧ w'.cell? ⟨w.heap.size,2,none⟩ = some (.int .i64 q) ∧ w'.cell? ⟨bv,ov + c,none⟩ = some (.int .i64 (nth v c))) (simp [go_sem, *])
        ((first | (go_at_call 165;refine (Hwk.out wr.drew HW.out.drew).mono ?_;rintro e w3 ⟨rfl,hb3⟩;have g0:=cell_below hb3 x0;have g1:=cell_below hb3 x1;have g2:=cell_below hb3 x2;have g3:=cell_below hb3 pvr;have hb30:=(hb3.block w.heap.size hbxl).trans Hbx.out;have hB3:=HW.out.trans (((Below.refl wr.heap.size wr).drew.trans hb3).mono HW.out.size);have Hb30:=Lib.hid hb30;have HB3:=Lib.hid hB3;clear hb3 hb30 hB3) | (go_at_call 122;refine (Hmu.out _).mono ?_;rintro e w4 ⟨rfl,rfl⟩)))
      go_wp2_with fail
      go_roundw
      case rel => exact ⟨c + 1,by omega,by go_num,by rw [IntKind.wrap_i64,sumN,wrap64],Hb30.out,HB3.out⟩
      case measure => simp [intOf];omega
    · obtain rfl:c = x:=by omega
      have HW:=Lib.hid hW;clear hW hbx
      go_wp2_with fail
      go_ret
      exact ⟨rfl,HW.out⟩
def RightN (sz ps:List Int) (q:Int):Prop:=GoodSz sz ∧ 0 ≤ q ∧ q ≤ 62 ∧ ps.length = cntN sz (sz.length - 1)
end Go.Proofs.YthamijnggdjaoaaGreatDoor
namespace Go.Proofs.YthamijnggdjaoaaGreatDoor
open Go.RowKit
theorem et_vecs:ElemT Tryz.prog 138 65 (.slice none 0 0) 1 24:=⟨Tryz.underlying138,info_parts (by kernel_rfl),rfl,by decide⟩
theorem trace1_any (P base:Nat) (A B:Option Addr) (n c m d:Nat) (xs:List Value) (w:World) (hP:w.heap[P]? = some (.cells #[.slice A n c] 138 (0,0))) (ho:w.ownsRow base 65 1 (.slice A n c) n xs) (hn:n ≤ 1000000) (hbase:base ≤ w.heap.size) (hPb:base ≤ P) :
    Calls Tryz.prog 154 #[.slice B m d,.pointer (some ⟨P,0,none⟩)] w fun e w' => (∃ v,e = .returned v) ∧ ∃ A' c',w'.heap[P]? = some (.cells #[.slice A' (n + 1) c'] 138 (0,0)) ∧ w'.ownsRow base 65 1 (.slice A' (n + 1) c') (n + 1) (xs ++ [.slice B m d]) ∧
      Keep (fun i => i = P ∨ (Value.slice A n c).ownBlock = some i) w w':=by
  obtain ⟨p0,pf⟩:=bx1 hP
  have hPl:=lt_of_block hP
  have HP:=Lib.hid hP;have HO:=Lib.hid ho;clear hP ho
  go_enter Tryz.func154,Tryz.ntmps154
  go_wp2_with (at_builtin;refine wpList_push et_vecs w rfl (.tmp 3) (.tmp 5) rfl base (.slice A n c) n xs rfl HO.out [.slice B m d] rfl rfl (by simp [Value.oneCell']) (by omega) (by unfold maxLen;omega) hbase ?_)
  intro g c' w1 ho1 hb1 hg1
  have hP1:=(hg1.block P hPl (block_notrow HP.out (by decide) HO.out)).trans HP.out
  have hg1:Keep (fun i => i = P ∨ (Value.slice A n c).ownBlock = some i) w w1:=(Keep.refl _ w).grown hg1 (fun k hk => .inr (.inr hk))
  obtain ⟨q0,qf⟩:=bx1 hP1
  have HP1:=Lib.hid hP1;have HO1:=Lib.hid ho1;have HG:=Lib.hid hg1;clear hP1 ho1 hb1 hg1
  go_wp2_with fail
  have h9:=heap_setCell_same w1 P 0 _ _ (.slice (some ⟨g,0,none⟩) (n + 1) c') HP1.out
  have k9:Keep (fun i => i = P) w1 (w1.setCell ⟨P,0,none⟩ (.slice (some ⟨g,0,none⟩) (n + 1) c')):=Keep.setCell (S:=fun i => i = P) (Keep.refl _ _) ⟨P,0,none⟩ (.inr rfl) _
  have o9:=k9.own HO1.out (fun i hi e => block_notrow HP1.out (by decide) HO1.out (by rw [hi,e]))
  have g9:=HG.out.setCell ⟨P,0,none⟩ (.inr (.inl rfl)) (.slice (some ⟨g,0,none⟩) (n + 1) c')
  go_end0
  exact ⟨⟨_,rfl⟩,_,_,h9,o9,g9⟩
end Go.Proofs.YthamijnggdjaoaaGreatDoor
namespace Go.Proofs.YthamijnggdjaoaaGreatDoor
open Go.RowKit
theorem et_ints:ElemT Tryz.prog 22 3 (.int .i64 0) 1 8:=⟨Tryz.underlying22,info_parts (by kernel_rfl),rfl,by decide⟩
theorem iclone_any (A:Option Addr) (zs:List Int) (c:Nat) (w:World) (hA:Rd w A (nums .i64 zs)) (hl:zs.length ≤ 17592186043904) :
    Calls Tryz.prog 59 #[.slice A zs.length c] w fun e w' => ∃ v,e = .returned v ∧ w'.ownsRow w.heap.size 3 1 v zs.length (nums .i64 zs) ∧ Below w.heap.size w w':=by
  have q:=fun (w:World) => Lib.run_eql_slice_nil (P:=Tryz.prog) w 22 3 A zs.length c 0 0 Tryz.underlying22
  cases A with
  | none =>
    have hz:zs = []:=by
      cases zs with
      | nil => rfl
      | cons z l => obtain ⟨b,o,h,_⟩:=hA 0 _ rfl;cases h
    subst hz
    clear q
    have q:=fun (w:World) => Lib.run_eql_slice_nil (P:=Tryz.prog) w 22 3 none 0 c 0 0 Tryz.underlying22
    simp only [Option.isNone_none] at q
    rw [List.length_nil]
    go_enter Tryz.func59,Tryz.ntmps59
    go_wp2
    go_ret
    exact ⟨_,rfl,World.ownsRow_nil _ _ _ _,Below.refl _ _⟩
  | some a =>
    go_enter Tryz.func59,Tryz.ntmps59
    go_wp2_with (at_builtin;refine wpList_app et_ints _ rfl (.tmp 5) (.tmp 6) rfl w.heap.size _ 0 [] rfl (own_empty w 3 1) _ zs.length c (nums .i64 zs) rfl (hA.alloc _) (by rw [nums_length];omega) (nums_cell _ _) (by omega) (by unfold maxLen;omega) (by simp) ?_)
    intro A' c' w1 hown hb _ _
    have hb1:=((Below.refl _ w).alloc (Nat.le_refl _) (.cells #[] 3)).trans hb
    have Hown:=Lib.hid hown;have Hb1:=Lib.hid hb1;clear hown hb hb1
    go_wp2
    go_ret
    exact ⟨_,rfl,Hown.out,Hb1.out⟩
theorem shape_sizes (b:Nat) (sz:List Int) (w:World) (h:ShapeAt 123 w b sz) (hl:sz.length ≤ 17592186043904) :
    Calls Tryz.prog 62 #[.pointer (some ⟨b,0,none⟩)] w fun e w' => ∃ A c,e = .returned (.slice A sz.length c) ∧ w'.ownsRow w.heap.size 3 1 (.slice A sz.length c) sz.length (nums .i64 sz) ∧ Below w.heap.size w w':=by
  obtain ⟨A1,c1,A2,c2,A3,c3,h0,h1,h2,h3⟩:=h
  obtain ⟨⟨r0,r1,r2,r3⟩,rf⟩:=bx4 h0
  have hc:=iclone_any A1 sz c1 w h1 hl
  have Hc:=Lib.hid hc;clear hc h0 h1 h2 h3
  go_enter Tryz.func62,Tryz.ntmps62
  go_wp2_with fail
  refine Hc.out.mono ?_
  rintro e w1 ⟨v,rfl,hown,hb⟩
  obtain ⟨A',c',rfl,hc'⟩:=own_form hown
  have Hown:=Lib.hid hown;have Hb:=Lib.hid hb;clear hown hb hc'
  clear r0 r1 r2 r3 rf
  go_wp2
  go_ret
  exact ⟨_,_,rfl,Hown.out,Hb.out⟩
theorem shape_links (b:Nat) (sz:List Int) (w:World) (h:ShapeAt 123 w b sz) :
    Calls Tryz.prog 63 #[.pointer (some ⟨b,0,none⟩)] w fun e w' => e = .returned (.int .i64 ((sz.length - 1:Nat):Int)) ∧ w = w':=by
  obtain ⟨A1,c1,A2,c2,A3,c3,h0,h1,h2,h3⟩:=h
  obtain ⟨⟨r0,r1,r2,r3⟩,rf⟩:=bx4 h0
  clear h0 h1 h2 h3
  go_enter Tryz.func63,Tryz.ntmps63
  go_wp2
  go_ret
  exact ⟨rfl,rfl⟩
theorem shape_count (b:Nat) (sz:List Int) (w:World) (h:ShapeAt 123 w b sz) :
    Calls Tryz.prog 52 #[.pointer (some ⟨b,0,none⟩)] w fun e w' => e = .returned (.int .i64 (cntN sz (sz.length - 1):Int)) ∧ w = w':=by
  obtain ⟨A1,c1,A2,c2,A3,c3,h0,h1,h2,h3⟩:=h
  obtain ⟨⟨r0,r1,r2,r3⟩,rf⟩:=bx4 h0
  clear h0 h1 h2 h3
  go_enter Tryz.func52,Tryz.ntmps52
  go_wp2
  go_ret
  exact ⟨rfl,rfl⟩
set_option maxHeartbeats 400000 in
theorem shape_weights (b:Nat) (sz:List Int) (k:Nat) (w:World) (h:ShapeAt 123 w b sz) (hl:sz.length ≤ 17592186043904) (hk:k < sz.length - 1) :
    Calls Tryz.prog 64 #[.pointer (some ⟨b,0,none⟩),.int .i64 k] w fun e w' => e = .returned (.agg #[.int .i64 (cntN sz k:Int),.int .i64 (midN sz k:Int)]) ∧ Below w.heap.size w w':=by
  have hlk:=fun w' (hb:Below w.heap.size w w') => shape_links b sz w' (h.below hb)
  have hb0:=h.lt
  obtain ⟨A1,c1,A2,c2,A3,c3,h0,h1,h2,h3⟩:=h
  obtain ⟨n,hn⟩:∃ n,sz.length - 1 = n:=⟨_,rfl⟩
  rw [hn] at h0 h2 h3 hk hlk
  obtain ⟨⟨r0,r1,r2,r3⟩,rf⟩:=bx4 h0
  obtain ⟨e1,e2⟩:=wVals_at sz hk
  obtain ⟨b2,o2,rfl,p1⟩:=h2 _ _ e1
  obtain ⟨b2',o2',e',p2⟩:=h2 _ _ e2
  injection e' with e';injection e' with e3 e4 _
  subst e3;subst e4
  rw [show o2 + (k * 2 + 1) = o2 + k * 2 + 1 by omega] at p2
  have hb2:=lt_of_cell p1
  have Hlk:=Lib.hid hlk
  have hnl:n ≤ 17592186043904:=by omega
  clear hlk h0 h1 h2 h3 e1 e2 hn hl
  go_enter Tryz.func64,Tryz.ntmps64
  go_wp2_with fail
  refine (Hlk.out _ ?_).mono ?_
  · (focus (repeat' (first | (with_reducible exact Below.refl _ _) | (with_reducible assumption) | (with_reducible refine Below.setCell ?_ ?_ _) | (with_reducible refine Below.alloc ?_ ?_ _) | (with_reducible refine below_drewN ?_ _) | (with_reducible refine Below.drew ?_) | (with_reducible exact Nat.le_refl _) | omega | (simp;done) | (simp;omega))))
  rintro e w' ⟨rfl,rfl⟩
  have hlt:(k:Int) < n:=by omega
  go_wp2_with fail
  refine bodyPost_ret (v:=.agg #[.int .i64 (cntN sz k:Int),.int .i64 (midN sz k:Int)]) (by simp [results,Tryz.results64,go_sem]) rfl ⟨rfl,?_⟩
  (focus (repeat' (first | (with_reducible exact Below.refl _ _) | (with_reducible assumption) | (with_reducible refine Below.setCell ?_ ?_ _) | (with_reducible refine Below.alloc ?_ ?_ _) | (with_reducible refine below_drewN ?_ _) | (with_reducible refine Below.drew ?_) | (with_reducible exact Nat.le_refl _) | omega | (simp;done) | (simp;omega))))
set_option maxHeartbeats 400000 in
theorem shape_biases (b:Nat) (sz:List Int) (k:Nat) (w:World) (h:ShapeAt 123 w b sz) (hl:sz.length ≤ 17592186043904) (hk:k < sz.length - 1) :
    Calls Tryz.prog 65 #[.pointer (some ⟨b,0,none⟩),.int .i64 k] w fun e w' => e = .returned (.agg #[.int .i64 (midN sz k:Int),.int .i64 (cntN sz (k + 1):Int)]) ∧ Below w.heap.size w w':=by
  have hlk:=fun w' (hb:Below w.heap.size w w') => shape_links b sz w' (h.below hb)
  have hb0:=h.lt
  obtain ⟨A1,c1,A2,c2,A3,c3,h0,h1,h2,h3⟩:=h
  obtain ⟨n,hn⟩:∃ n,sz.length - 1 = n:=⟨_,rfl⟩
  rw [hn] at h0 h2 h3 hk hlk
  obtain ⟨⟨r0,r1,r2,r3⟩,rf⟩:=bx4 h0
  obtain ⟨e1,e2⟩:=bVals_at sz hk
  obtain ⟨b2,o2,rfl,p1⟩:=h3 _ _ e1
  obtain ⟨b2',o2',e',p2⟩:=h3 _ _ e2
  injection e' with e';injection e' with e3 e4 _
  subst e3;subst e4
  rw [show o2 + (k * 2 + 1) = o2 + k * 2 + 1 by omega] at p2
  have hb2:=lt_of_cell p1
  have Hlk:=Lib.hid hlk
  have hnl:n ≤ 17592186043904:=by omega
  clear hlk h0 h1 h2 h3 e1 e2 hn hl
  go_enter Tryz.func65,Tryz.ntmps65
  go_wp2_with fail
  refine (Hlk.out _ ?_).mono ?_
  · (focus (repeat' (first | (with_reducible exact Below.refl _ _) | (with_reducible assumption) | (with_reducible refine Below.setCell ?_ ?_ _) | (with_reducible refine Below.alloc ?_ ?_ _) | (with_reducible refine below_drewN ?_ _) | (with_reducible refine Below.drew ?_) | (with_reducible exact Nat.le_refl _) | omega | (simp;done) | (simp;omega))))
  rintro e w' ⟨rfl,rfl⟩
  have hlt:(k:Int) < n:=by omega
  go_wp2_with fail
  refine bodyPost_ret (v:=.agg #[.int .i64 (midN sz k:Int),.int .i64 (cntN sz (k + 1):Int)]) (by simp [results,Tryz.results65,go_sem]) rfl ⟨rfl,?_⟩
  (focus (repeat' (first | (with_reducible exact Below.refl _ _) | (with_reducible assumption) | (with_reducible refine Below.setCell ?_ ?_ _) | (with_reducible refine Below.alloc ?_ ?_ _) | (with_reducible refine below_drewN ?_ _) | (with_reducible refine Below.drew ?_) | (with_reducible exact Nat.le_refl _) | omega | (simp;done) | (simp;omega))))
end Go.Proofs.YthamijnggdjaoaaGreatDoor
