/- The walks of part.Count and Blocks. The walks of package fixp. The walks of package vec. The walks of package draw: New, Left, Next. No condition. -/
import Derived.Test.YtaccfnffmbndhaaGreatA03
import Derived.Test.YtaccfnffmbndhaaGreatA04
import Derived.Test.YtaccfnffmbndhaaGreatProg
import Derived.Test.YtaccfnffmbndhaaGreatA01
import Derived.KernelRfl
import Derived.BigQuiet
import Derived.Deep.QuietTactic
import Derived.Lib.Mul64
import Derived.Laws.Bits64b
import Derived.WalkSpells
import Derived.Deep.RegionHeld3
import Derived.IntWalk
set_option linter.unusedSimpArgs false
set_option linter.unusedVariables false
namespace Go.Proofs.YtaccfnffmbndhaaGreat
open Go.RowKit
theorem count_any (n size:Nat) (w:World) (hn:n ≤ 1048576) (hs:1 ≤ size) (hs2:size ≤ 1048576) :
    Calls Tryz.prog 98 #[.int .i64 n,.int .i64 size] w fun e w' => e = .returned (.int .i64 (cntQ n size:Int)) ∧ w = w':=by
  have hq:¬ ((size:Int) < 1):=by omega
  by_cases h0:n = 0
  · subst h0
    go_enter Tryz.func98,Tryz.ntmps98
    go_wp2
    go_ret
    exact ⟨rfl,rfl⟩
  · have hq2:¬ ((n:Int) < 1):=by omega
    have hq3:(0:Int) ≤ (n:Int) - 1:=by omega
    have he:=ediv_pred n size (by omega)
    have hle:=Nat.div_le_self (n - 1) size
    have hc:cntQ n size = (n - 1) / size + 1:=by unfold cntQ;rw [if_neg h0]
    rw [hc]
    obtain ⟨y,hy⟩:∃ y,(n - 1) / size = y:=⟨_,rfl⟩
    rw [hy] at he hle ⊢
    have htd:((n:Int) - 1).tdiv size = y:=by rw [Int.tdiv_eq_ediv_of_nonneg hq3,he]
    have Hy:=Lib.hid hy;have Hc:=Lib.hid hc;clear hy hc h0
    go_enter Tryz.func98,Tryz.ntmps98
    go_wp2
    go_ret
    exact ⟨rfl,rfl⟩
set_option maxHeartbeats 800000 in
theorem blocks_any (n size:Nat) (w:World) (hn:n ≤ 1048576) (hs:1 ≤ size) (hs2:size ≤ 1048576) :
    Calls Tryz.prog 94 #[.int .i64 n,.int .i64 size] w fun e w' => ∃ v,e = .returned v ∧ w'.ownsRow w.heap.size 52 2 v (cntQ n size) (blkVals n size (cntQ n size)) ∧ Below w.heap.size w w':=by
  have hco:=count_any n size w hn hs hs2
  have hle:=cntQ_le n size
  have hlt':=fun k (h:k < cntQ n size) => cntQ_lt h
  obtain ⟨m,hm⟩:∃ m,cntQ n size = m:=⟨_,rfl⟩
  rw [hm] at hco hle hlt' ⊢
  have Hco:=Lib.hid hco;have Hlt:=Lib.hid hlt';clear hco hm hlt'
  go_enter Tryz.func94,Tryz.ntmps94
  go_wp2_with fail
  refine Hco.out.mono ?_
  rintro e w' ⟨rfl,rfl⟩
  go_wp2_with fail
  go_loopw [5,11] (fun v x wr => ∃ k:Nat,k ≤ m ∧ x = .int .i64 k ∧ wr.ownsRow w.heap.size 52 2 v k (blkVals n size k) ∧ Below w.heap.size w wr) (fun _ x _ => m - (intOf x).toNat)
  case atStart => exact ⟨0,Nat.zero_le _,rfl,World.ownsRow_nil _ _ _ _,Below.refl _ _⟩
  case round =>
    obtain ⟨k,hk,rfl,hown,hb⟩:=hrel
    by_cases hlt:k < m
    · have hlo:=Hlt.out k hlt
      obtain ⟨y,hy⟩:∃ y,k * size = y:=⟨_,rfl⟩
      rw [hy] at hlo
      have hmul:(k:Int) * (size:Int) = (y:Int):=by rw [← hy];push_cast;rfl
      obtain ⟨Al,cl,rfl,_⟩:=own_form hown
      have Hy:=Lib.hid hy;have Hown:=Lib.hid hown;have Hb:=Lib.hid hb;clear hown hb hy
      by_cases hsz:(size:Int) ≤ (n:Int) - y
      · have hsz2:(y:Int) + size ≤ n:=by omega
        go_wp2_with (at_builtin;refine wpList_push et_rngs _ rfl (.tmp 17) (.tmp 27) rfl w.heap.size (.slice Al k cl) k _ rfl Hown.out [.int .i64 (y:Int),.int .i64 ((y:Int) + size)] rfl rfl (nums_cell .i64 [_,_]) (by omega) (by unfold maxLen;omega) Hb.out.size ?_)
        intro g6 c6 w6 ho6 hb6 hg6
        have HO6:=Lib.hid ho6;have HB6:=Lib.hid (Hb.out.trans hb6)
        clear ho6 hb6 hg6
        go_wp2_with fail
        go_roundw
        case rel =>
          refine ⟨k + 1,by omega,by go_num,?_,HB6.out⟩
          rw [blkVals_succ,Hy.out,show ((min (y + size) n:Nat):Int) = (y:Int) + size by omega]
          exact HO6.out
        case measure => simp [intOf];omega
      · have hsz2:(n:Int) - y < size:=by omega
        go_wp2_with (at_builtin;refine wpList_push et_rngs _ rfl (.tmp 17) (.tmp 27) rfl w.heap.size (.slice Al k cl) k _ rfl Hown.out [.int .i64 (y:Int),.int .i64 ((y:Int) + ((n:Int) - y))] rfl rfl (nums_cell .i64 [_,_]) (by omega) (by unfold maxLen;omega) Hb.out.size ?_)
        intro g6 c6 w6 ho6 hb6 hg6
        have HO6:=Lib.hid ho6;have HB6:=Lib.hid (Hb.out.trans hb6)
        clear ho6 hb6 hg6
        go_wp2_with fail
        go_roundw
        case rel =>
          refine ⟨k + 1,by omega,by go_num,?_,HB6.out⟩
          rw [blkVals_succ,Hy.out,show ((min (y + size) n:Nat):Int) = (y:Int) + ((n:Int) - y) by omega]
          exact HO6.out
        case measure => simp [intOf];omega
    · obtain rfl:m = k:=by omega
      have Hown:=Lib.hid hown;have Hb:=Lib.hid hb;clear hown hb
      go_wp2_with fail
      go_ret
      exact ⟨_,rfl,Hown.out,Hb.out⟩
end Go.Proofs.YtaccfnffmbndhaaGreat
namespace Go.Proofs.YtaccfnffmbndhaaGreat
open Go.RowKit
theorem maskN (a:Nat) (ha:a < 18446744073709551616):bits .and .u64 (a:Int) 4294967295 = ((a % 4294967296:Nat):Int):=by
  have h:=bits_and_u64_nat a 4294967295 ha (by omega)
  have e:a &&& 4294967295 = a % 4294967296:=Nat.and_two_pow_sub_one_eq_mod a 32
  rw [e] at h
  exact h
theorem divN (a:Nat):(a:Int) / 4294967296 = ((a / 4294967296:Nat):Int):=by omega
theorem mulN (a b:Nat):(a:Int) * (b:Int) = ((a * b:Nat):Int):=(Int.natCast_mul a b).symm
theorem addN (a b:Nat):(a:Int) + (b:Int) = ((a + b:Nat):Int):=(Int.natCast_add a b).symm
theorem wrapN (a:Nat) (ha:a < 18446744073709551616):IntKind.u64.wrap (a:Int) = (a:Int):=by rw [IntKind.wrap_u64];omega
theorem wrapM (a:Nat):IntKind.u64.wrap (a:Int) = ((a % 18446744073709551616:Nat):Int):=by rw [IntKind.wrap_u64];omega
set_option maxHeartbeats 1000000 in
theorem mul64_any (x y:Nat) (hx:x < 18446744073709551616) (hy:y < 18446744073709551616) (w:World) :
    Calls Tryz.prog 228 #[.int .u64 x,.int .u64 y] w fun e w' => e = .returned (.tuple #[.int .u64 ((x * y / 18446744073709551616:Nat):Int),.int .u64 ((x * y % 18446744073709551616:Nat):Int)]) ∧ w = w':=by
  obtain ⟨bd,bt,bw,hhi⟩:=Lib.mul64_hi x y hx hy
  have ba:=Lib.half_mul_le (a:=x / 4294967296) (b:=y / 4294967296) (by omega) (by omega)
  have bb:=Lib.half_mul_le (a:=x / 4294967296) (b:=y % 4294967296) (by omega) (by omega)
  have bc:=Lib.half_mul_le (a:=x % 4294967296) (b:=y / 4294967296) (by omega) (by omega)
  have ba':x / 4294967296 * (y / 4294967296) < 18446744073709551616:=by omega
  have bb':x / 4294967296 * (y % 4294967296) < 18446744073709551616:=by omega
  have bc':x % 4294967296 * (y / 4294967296) < 18446744073709551616:=by omega
  have bh1:x / 4294967296 * (y / 4294967296) + (x / 4294967296 * (y % 4294967296) + x % 4294967296 * (y % 4294967296) / 4294967296) / 4294967296 < 18446744073709551616:=by omega
  have bh:x / 4294967296 * (y / 4294967296) + (x / 4294967296 * (y % 4294967296) + x % 4294967296 * (y % 4294967296) / 4294967296) / 4294967296 + ((x / 4294967296 * (y % 4294967296) + x % 4294967296 * (y % 4294967296) / 4294967296) % 4294967296 + x % 4294967296 * (y / 4294967296)) / 4294967296 < 18446744073709551616:=by omega
  go_enter Tryz.func228,Tryz.ntmps228
  go_wp2
  simp only [maskN x hx,maskN y hy,divN,mulN,addN,wrapN _ bd,wrapN _ bb',wrapN _ bt,maskN _ bt,wrapN _ bc',wrapN _ bw,wrapN _ ba',wrapN _ bh1,wrapN _ bh,wrapM (x * y)]
  rw [hhi]
  go_ret2
  exact ⟨rfl,rfl⟩
theorem relu_any (a:Int) (w:World):Calls Tryz.prog 216 #[.int .i64 a] w fun e w' => e = .returned (.int .i64 (max a 0)) ∧ w = w':=by
  go_enter Tryz.func216,Tryz.ntmps216
  go_wp2
  all_goals
    go_ret
    exact ⟨ret_int (by omega),rfl⟩
theorem gate_any (a g:Int) (w:World):Calls Tryz.prog 180 #[.int .i64 a,.int .i64 g] w fun e w' => e = .returned (.int .i64 (if 0 < a then g else 0)) ∧ w = w':=by
  by_cases h:a ≤ 0
  · rw [if_neg (by omega)]
    go_enter Tryz.func180,Tryz.ntmps180
    go_wp2
    go_ret
    exact ⟨rfl,rfl⟩
  · rw [if_pos (by omega)]
    go_enter Tryz.func180,Tryz.ntmps180
    go_wp2
    go_ret
    exact ⟨rfl,rfl⟩
theorem sub_any (a b:Int) (w:World):Calls Tryz.prog 197 #[.int .i64 a,.int .i64 b] w fun e w' => e = .returned (.int .i64 (wrap64 (a - b))) ∧ w = w':=by
  go_enter Tryz.func197,Tryz.ntmps197
  go_wp2
  go_ret
  exact ⟨rfl,rfl⟩
theorem shift_or (hi lo:Int) (q:Nat) (hq:q ≤ 63) (h2:0 ≤ lo ∧ lo < 18446744073709551616) :
    bits .or .u64 (IntKind.u64.wrap (IntKind.u64.wrap hi * 2 ^ (64 - q))) (lo / 2 ^ q) = (uw hi % 2 ^ q) * 2 ^ (64 - q) + lo / 2 ^ q:=by
  obtain ⟨H,hH,_⟩:=uw_nat hi
  obtain ⟨L,rfl⟩:=Int.eq_ofNat_of_zero_le h2.1
  have hM:(18446744073709551616:Nat) = 2 ^ (64 - q) * 2 ^ q:=by rw [← Nat.pow_add,show 64 - q + q = 64 by omega]
  have hw:IntKind.u64.wrap hi = uw hi:=by rw [IntKind.wrap_u64];rfl
  have hx:IntKind.u64.wrap (uw hi * 2 ^ (64 - q)) = ((2 ^ (64 - q) * (H % 2 ^ q):Nat):Int):=by
    rw [IntKind.wrap_u64,hH]
    have:((H * 2 ^ (64 - q):Nat):Int) % ((18446744073709551616:Nat):Int) = ((2 ^ (64 - q) * (H % 2 ^ q):Nat):Int):=by
      rw [← Int.natCast_emod,Nat.mul_comm H,hM,Nat.mul_mod_mul_left]
    simpa using this
  have hy:((L:Int) / 2 ^ q) = ((L / 2 ^ q:Nat):Int):=by simp
  have hpq:0 < 2 ^ q:=Nat.pow_pos (by decide)
  have b1:L / 2 ^ q < 2 ^ (64 - q):=by
    rw [Nat.div_lt_iff_lt_mul hpq]
    have:=h2.2
    omega
  have b2:2 ^ (64 - q) * (H % 2 ^ q) < 18446744073709551616:=by
    rw [hM]
    exact Nat.mul_lt_mul_of_pos_left (Nat.mod_lt _ hpq) (Nat.pow_pos (by decide))
  have b3:L / 2 ^ q < 18446744073709551616:=Nat.lt_of_le_of_lt (Nat.div_le_self _ _) (by omega)
  rw [hw,hx,hy,bits_or_u64_nat _ _ b2 b3,← Nat.two_pow_add_eq_or_of_lt b1,hH,Int.natCast_add,Int.natCast_mul,Int.mul_comm]
  simp
theorem shift_val (hi lo:Int) (q:Nat) (hq:q ≤ 63) (h2:0 ≤ lo ∧ lo < 18446744073709551616) :
    wrap64 (bits .or .u64 (IntKind.u64.wrap (IntKind.u64.wrap hi * 2 ^ (64 - q))) (lo / 2 ^ q)) = wrap64 (hi * 2 ^ (64 - q) + lo / 2 ^ q):=by
  rw [shift_or hi lo q hq h2]
  have hM:(18446744073709551616:Int) = 2 ^ (64 - q) * 2 ^ q:=by rw [← Int.pow_add,show 64 - q + q = 64 by omega];rfl
  obtain ⟨k,hk⟩:∃ k:Int,uw hi = hi + k * 18446744073709551616:=⟨-(hi / 18446744073709551616),by unfold uw;omega⟩
  have hd:=Int.emod_add_mul_ediv (uw hi) (2 ^ q)
  refine wrap64_eq ⟨k * 2 ^ (64 - q) - uw hi / 2 ^ q,?_⟩
  have e:uw hi % 2 ^ q = hi + k * 18446744073709551616 - 2 ^ q * (uw hi / 2 ^ q):=by omega
  rw [e,Int.sub_mul,Int.add_mul,Int.sub_mul]
  have e2:2 ^ q * (uw hi / 2 ^ q) * 2 ^ (64 - q) = (uw hi / 2 ^ q) * 18446744073709551616:=by
    rw [hM,Int.mul_comm (2 ^ q:Int),Int.mul_assoc,Int.mul_comm (2 ^ q:Int)]
  have e3:k * 18446744073709551616 * 2 ^ (64 - q) = k * 2 ^ (64 - q) * 18446744073709551616:=by rw [Int.mul_assoc,Int.mul_comm 18446744073709551616,← Int.mul_assoc]
  rw [e2,e3]
  omega
def prodK (a b:Int):Nat → Int
  | 0 => wrap64 (uw a * uw b / 18446744073709551616)
  | 1 => if a < 0 then wrap64 (wrap64 (uw a * uw b / 18446744073709551616) - b) else wrap64 (uw a * uw b / 18446744073709551616)
  | _ => prodHi a b
theorem prodK_2 (a b:Int) (ha:-9223372036854775808 ≤ a ∧ a ≤ 9223372036854775807) (hb:-9223372036854775808 ≤ b ∧ b ≤ 9223372036854775807):prodHi a b = if b < 0 then wrap64 (prodK a b 1 - a) else prodK a b 1:=by
  rw [← words_hi a b ha hb]
  unfold prodK
  by_cases h1:a < 0
  · by_cases h2:b < 0
    · simp only [h1,h2,if_true,wrap64_sub]
    · simp only [h1,h2,if_true,if_false,wrap64_sub,Int.sub_zero]
  · by_cases h2:b < 0
    · simp only [h1,h2,if_true,if_false,wrap64_sub,Int.sub_zero]
    · simp only [h1,h2,if_false,Int.sub_zero]
set_option maxHeartbeats 1000000 in
theorem prod_any (a b:Int) (w:World) (ha:-9223372036854775808 ≤ a ∧ a ≤ 9223372036854775807) (hb:-9223372036854775808 ≤ b ∧ b ≤ 9223372036854775807) :
    Calls Tryz.prog 219 #[.int .i64 a,.int .i64 b] w fun e w' => e = .returned (.tuple #[.int .i64 (prodHi a b),.int .u64 (prodLo a b)]) ∧ Below w.heap.size w w':=by
  obtain ⟨X,hX,hX2⟩:=uw_nat a
  obtain ⟨Y,hY,hY2⟩:=uw_nat b
  have eX:IntKind.u64.wrap a = (X:Int):=by rw [IntKind.wrap_u64,← hX];rfl
  have eY:IntKind.u64.wrap b = (Y:Int):=by rw [IntKind.wrap_u64,← hY];rfl
  have hK0:wrap64 ((X * Y / 18446744073709551616:Nat):Int) = prodK a b 0:=by unfold prodK;rw [hX,hY];simp
  have hlo:((X * Y % 18446744073709551616:Nat):Int) = prodLo a b:=by rw [← words_lo a b ha hb,hX,hY];unfold uw;simp
  have hm:=mul64_any X Y hX2 hY2 w
  rw [hlo] at hm
  obtain ⟨h,hh⟩:∃ h:Int,((X * Y / 18446744073709551616:Nat):Int) = h:=⟨_,rfl⟩
  rw [hh] at hm hK0
  have i0:∀ w,(Instr.index 342 (.agg #[.int .i64 a,.int .i64 b,.int .i64 b,.int .i64 a]) (.int .i64 0)).run Tryz.prog w = .ok (.agg #[.int .i64 a,.int .i64 b]) w:=fun w => by kernel_rfl
  have i1:∀ w,(Instr.index 342 (.agg #[.int .i64 a,.int .i64 b,.int .i64 b,.int .i64 a]) (.int .i64 1)).run Tryz.prog w = .ok (.agg #[.int .i64 b,.int .i64 a]) w:=fun w => by kernel_rfl
  have Hm:=Lib.hid hm;have EX:=Lib.hid eX;have EY:=Lib.hid eY;have HK0:=Lib.hid hK0;have I0:=Lib.hid i0;have I1:=Lib.hid i1
  clear hm eX eY hK0 hlo hX hY hh i0 i1
  go_enter Tryz.func219,Tryz.ntmps219
  go_wp2_with fail
  rw [EX.out,EY.out]
  refine Hm.out.mono ?_
  rintro e w1 ⟨rfl,rfl⟩
  go_wp2_with fail
  rw [HK0.out]
  go_loopw [4,26] (fun s i wr => ∃ k:Nat,k ≤ 2 ∧ i = .int .i64 k ∧ s = .int .i64 (prodK a b k) ∧ Below w.heap.size w wr) (fun _ i _ => 2 - (intOf i).toNat)
  case atStart => exact ⟨0,by omega,rfl,rfl,Below.refl _ _⟩
  case round =>
    obtain ⟨k,hk,rfl,rfl,hW⟩:=hrel
    have HW:=Lib.hid (hW.trans ((Below.refl _ _).alloc hW.size (.cells #[.int .i64 a,.int .i64 b] 341)))
    have HW2:=Lib.hid (hW.trans ((Below.refl _ _).alloc hW.size (.cells #[.int .i64 b,.int .i64 a] 341)))
    rcases (show k = 0 ∨ k = 1 ∨ k = 2 by omega) with rfl | rfl | rfl
    · rw [show (((0:Nat):Int)) = 0 from rfl]
      have i0:=I0.out
      by_cases h:a < 0
      · have he:wrap64 (prodK a b 0 - b) = prodK a b 1:=by simp only [prodK,h,if_true]
        have He:=Lib.hid he;clear he hW hk
        go_wp2_with fail
        rw [He.out]
        go_roundw
        case rel => exact ⟨1,by omega,rfl,rfl,HW.out⟩
        case measure => simp [intOf]
      · have he:prodK a b 0 = prodK a b 1:=by simp only [prodK,h,if_false]
        have He:=Lib.hid he;clear he hW hk
        go_wp2_with fail
        rw [He.out]
        go_roundw
        case rel => exact ⟨1,by omega,rfl,rfl,HW.out⟩
        case measure => simp [intOf]
    · rw [show (((1:Nat):Int)) = 1 from rfl]
      have i1:=I1.out
      by_cases h:b < 0
      · have he:wrap64 (prodK a b 1 - a) = prodK a b 2:=by rw [show prodK a b 2 = prodHi a b from rfl,prodK_2 a b ha hb,if_pos h]
        have He:=Lib.hid he;clear he hW hk
        go_wp2_with fail
        rw [He.out]
        go_roundw
        case rel => exact ⟨2,by omega,rfl,rfl,HW2.out⟩
        case measure => simp [intOf]
      · have he:prodK a b 1 = prodK a b 2:=by rw [show prodK a b 2 = prodHi a b from rfl,prodK_2 a b ha hb,if_neg h]
        have He:=Lib.hid he;clear he hW hk
        go_wp2_with fail
        rw [He.out]
        go_roundw
        case rel => exact ⟨2,by omega,rfl,rfl,HW2.out⟩
        case measure => simp [intOf]
    · rw [show (((2:Nat):Int)) = 2 from rfl]
      have HW3:=Lib.hid hW;clear hW hk
      go_wp2_with fail
      go_ret2
      exact ⟨rfl,HW3.out⟩
set_option maxHeartbeats 1000000 in
theorem shift_any (hi lo:Int) (q:Nat) (w:World) (hq:q ≤ 62) (h1:-9223372036854775808 ≤ hi ∧ hi ≤ 9223372036854775807) (h2:0 ≤ lo ∧ lo < 18446744073709551616) :
    Calls Tryz.prog 220 #[.int .i64 hi,.int .u64 lo,.int .i64 q] w fun e w' => e = .returned (.int .i64 (wrap64 (hi * 2 ^ (64 - q) + lo / 2 ^ q))) ∧ ∃ n,w' = w.drewN n:=by
  have hv:=shift_val hi lo q (by omega) h2
  have Hv:=Lib.hid hv;clear hv
  go_enter Tryz.func220,Tryz.ntmps220
  go_wp2_with fail
  go_quiet (fail)
  rw [Hv.out]
  go_wp2
  go_ret
  exact ⟨rfl,_,rfl⟩
theorem mulQ_in (a b:Int) (q:Nat) (hq:q ≤ 62):mulQ a b q = wrap64 (prodHi a b * 2 ^ (64 - q) + prodLo a b / 2 ^ q):=by
  rw [shift_eq a b q hq]
  unfold mulQ
  rw [if_neg (by omega)]
  simp
theorem fixMul (a b q:Int) (w:World) (ha:-9223372036854775808 ≤ a ∧ a ≤ 9223372036854775807) (hb:-9223372036854775808 ≤ b ∧ b ≤ 9223372036854775807) :
    Calls Tryz.prog 200 #[.int .i64 a,.int .i64 b,.int .i64 q] w fun e w' => e = .returned (.int .i64 (mulQ a b q)) ∧ Below w.heap.size w w':=by
  by_cases h1:q < 0
  · have hv:mulQ a b q = 0:=by unfold mulQ;rw [if_pos (.inl h1)]
    rw [hv];clear hv
    go_enter Tryz.func200,Tryz.ntmps200
    go_wp2_with fail
    go_ret
    exact ⟨rfl,Below.refl _ _⟩
  · by_cases h2:62 < q
    · have hv:mulQ a b q = 0:=by unfold mulQ;rw [if_pos (.inr h2)]
      rw [hv];clear hv
      go_enter Tryz.func200,Tryz.ntmps200
      go_wp2_with fail
      go_ret
      exact ⟨rfl,Below.refl _ _⟩
    · obtain ⟨Q,rfl⟩:=Int.eq_ofNat_of_zero_le (show 0 ≤ q by omega)
      have hv:=mulQ_in a b Q (by omega)
      rw [hv]
      have hp:=prod_any a b w ha hb
      have hs:=fun w' => shift_any (prodHi a b) (prodLo a b) Q w' (by omega) (prodHi_bd ha hb) (uw_bd _)
      have Hp:=Lib.hid hp;have Hs:=Lib.hid hs;clear hp hs hv
      go_enter Tryz.func200,Tryz.ntmps200
      go_wp2_with fail
      refine Hp.out.mono ?_
      rintro e w1 ⟨rfl,hb1⟩
      have HB:=Lib.hid hb1;clear hb1
      go_wp2_with fail
      refine (Hs.out _).mono ?_
      rintro e w2 ⟨rfl,n,rfl⟩
      go_wp2_with fail
      go_ret
      exact ⟨rfl,below_drewN HB.out _⟩
end Go.Proofs.YtaccfnffmbndhaaGreat
namespace Go.Proofs.YtaccfnffmbndhaaGreat
open Go.RowKit
theorem et_vec:ElemT Tryz.prog 64 2 (.int .i64 0) 1 8:=⟨Tryz.underlying64,info_parts (by kernel_rfl),rfl,by decide⟩
theorem sclone_any (A:Option Addr) (zs:List Int) (c:Nat) (w:World) (hA:Rd w A (nums .i64 zs)) (hl:zs.length ≤ 17592186043904) :
    Calls Tryz.prog 116 #[.slice A zs.length c] w fun e w' => ∃ v,e = .returned v ∧ w'.ownsRow w.heap.size 2 1 v zs.length (nums .i64 zs) ∧ Below w.heap.size w w':=by
  have q:=fun (w:World) => Lib.run_eql_slice_nil (P:=Tryz.prog) w 64 2 A zs.length c 0 0 Tryz.underlying64
  cases A with
  | none =>
    have hz:zs = []:=by
      cases zs with
      | nil => rfl
      | cons z l => obtain ⟨b,o,h,_⟩:=hA 0 _ rfl;cases h
    subst hz
    clear q
    have q:=fun (w:World) => Lib.run_eql_slice_nil (P:=Tryz.prog) w 64 2 none 0 c 0 0 Tryz.underlying64
    simp only [Option.isNone_none] at q
    rw [List.length_nil]
    go_enter Tryz.func116,Tryz.ntmps116
    go_wp2
    go_ret
    exact ⟨_,rfl,World.ownsRow_nil _ _ _ _,Below.refl _ _⟩
  | some a =>
    go_enter Tryz.func116,Tryz.ntmps116
    go_wp2_with (at_builtin;refine wpList_app et_vec _ rfl (.tmp 5) (.tmp 6) rfl w.heap.size _ 0 [] rfl (own_empty w 2 1) _ zs.length c (nums .i64 zs) rfl (hA.alloc _) (by rw [nums_length];omega) (nums_cell _ _) (by omega) (by unfold maxLen;omega) (by simp) ?_)
    intro A' c' w1 hown hb _ _
    have hb1:=((Below.refl _ w).alloc (Nat.le_refl _) (.cells #[] 2)).trans hb
    have Hown:=Lib.hid hown;have Hb1:=Lib.hid hb1;clear hown hb hb1
    go_wp2
    go_ret
    exact ⟨_,rfl,Hown.out,Hb1.out⟩
theorem vclone_any (A:Option Addr) (zs:List Int) (c:Nat) (w:World) (hA:Rd w A (nums .i64 zs)) (hl:zs.length ≤ 17592186043904) :
    Calls Tryz.prog 67 #[.slice A zs.length c] w fun e w' => ∃ A' c',e = .returned (.slice A' zs.length c') ∧ zs.length ≤ c' ∧ w'.ownsRow w.heap.size 2 1 (.slice A' zs.length c') zs.length (nums .i64 zs) ∧ Below w.heap.size w w':=by
  have h:=sclone_any A zs c w hA hl
  go_enter Tryz.func67,Tryz.ntmps67
  go_wp2_with fail
  refine h.mono ?_
  rintro e w1 ⟨v,rfl,hown,hb⟩
  obtain ⟨A',c',rfl,hc⟩:=own_form hown
  clear h
  have Hown:=Lib.hid hown;have Hb:=Lib.hid hb;have Hc:=Lib.hid hc;clear hown hb hc
  go_wp2
  go_ret
  exact ⟨_,_,rfl,Hc.out,Hown.out,Hb.out⟩
theorem dot_any (A B:Option Addr) (xs ys:List Int) (c d:Nat) (q:Int) (w:World) (hA:Rd w A (nums .i64 xs)) (hB:Rd w B (nums .i64 ys)) (hl:xs.length = ys.length) (hm:xs.length ≤ 17592186043904) (wx:W64 xs) (wy:W64 ys) :
    Calls Tryz.prog 227 #[.slice A xs.length c,.slice B ys.length d,.int .i64 q] w fun e w' => e = .returned (.tuple #[.int .i64 (dotL xs ys q),.bool true]) ∧ Below w.heap.size w w':=by
  obtain ⟨n,hn⟩:∃ n,ys.length = n:=⟨_,rfl⟩
  have hnx:xs.length = n:=hl.trans hn
  have hd:dotL xs ys q = dotN xs ys q n:=by unfold dotL;rw [hnx]
  rw [hnx,hn,hd]
  have hmn:n ≤ 17592186043904:=by omega
  have Hn:=Lib.hid hn;have Hx:=Lib.hid hnx;have HA:=Lib.hid hA;have HB:=Lib.hid hB;have WX:=Lib.hid wx;have WY:=Lib.hid wy;clear hn hnx hA hB wx wy hl hm hd
  go_enter Tryz.func227,Tryz.ntmps227
  go_wp2_with fail
  go_loopw [8,18] (fun s i wr => ∃ k:Nat,k ≤ n ∧ i = .int .i64 k ∧ s = .int .i64 (dotN xs ys q k) ∧ Below w.heap.size w wr) (fun _ i _ => n - (intOf i).toNat)
  case atStart => exact ⟨0,Nat.zero_le _,rfl,rfl,Below.refl _ _⟩
  case round =>
    obtain ⟨k,hk,rfl,rfl,hW⟩:=hrel
    by_cases hlt:k < n
    · obtain ⟨b1,o1,hA1,p1⟩:=(HA.out.below hW).num (show k < xs.length by rw [Hx.out];exact hlt)
      obtain ⟨b2,o2,hB1,p2⟩:=(HB.out.below hW).num (show k < ys.length by rw [Hn.out];exact hlt)
      subst hA1;subst hB1
      have hm1:=fun w' => fixMul (nth xs k) (nth ys k) q w' (WX.out k (by rw [Hx.out];exact hlt)) (WY.out k (by rw [Hn.out];exact hlt))
      have Hm:=Lib.hid hm1;have HW:=Lib.hid hW;clear hm1 hW
      go_wp2_with fail
      refine (Hm.out _).mono ?_
      rintro e w3 ⟨rfl,hb3⟩
      have HB3:=Lib.hid (HW.out.trans (hb3.mono HW.out.size));clear hb3
      go_wp2_with fail
      go_roundw
      case rel => exact ⟨k + 1,by omega,by go_num,rfl,HB3.out⟩
      case measure => simp [intOf];omega
    · obtain rfl:k = n:=by omega
      have HW:=Lib.hid hW;clear hW
      go_wp2_with fail
      go_ret2
      exact ⟨rfl,HW.out⟩
theorem own_num {w:World} {base n g c:Nat} {xs:List Int} {e:TypeId} (h:w.ownsRow base e 1 (.slice (some ⟨g,0,none⟩) n c) n (nums .i64 xs)) {k:Nat} (hk:k < n):w.cell? ⟨g,k,none⟩ = some (.int .i64 (nth xs k)):=by
  rw [h.cellAt k (by omega)]
  have:=h.1
  rw [nums_length] at this
  exact nums_get .i64 xs k (by omega)
theorem own_len {w:World} {base n:Nat} {v:Value} {xs:List Int} {e:TypeId} (h:w.ownsRow base e 1 v n (nums .i64 xs)):xs.length = n:=by
  have:=h.1
  rw [nums_length] at this
  omega
theorem own_put {w:World} {base n g c:Nat} {xs:List Int} {e:TypeId} (h:w.ownsRow base e 1 (.slice (some ⟨g,0,none⟩) n c) n (nums .i64 xs)) (k:Nat) (v:Int) :
    (w.setCell ⟨g,k,none⟩ (.int .i64 v)).ownsRow base e 1 (.slice (some ⟨g,0,none⟩) n c) n (nums .i64 (xs.set k v)):=by
  have:=(h.stored k (.int .i64 v)).1
  rwa [nums_set] at this
theorem scale_any (A:Option Addr) (xs:List Int) (c:Nat) (a q:Int) (w:World) (hA:Rd w A (nums .i64 xs)) (hm:xs.length ≤ 17592186043904) (wx:W64 xs) (ha:-9223372036854775808 ≤ a ∧ a ≤ 9223372036854775807) :
    Calls Tryz.prog 201 #[.slice A xs.length c,.int .i64 a,.int .i64 q] w fun e w' => ∃ A' c',e = .returned (.slice A' xs.length c') ∧ w'.ownsRow w.heap.size 2 1 (.slice A' xs.length c') xs.length (nums .i64 (scaleL xs a q)) ∧ Below w.heap.size w w':=by
  have hcl:=vclone_any A xs c w hA hm
  have hall:=mixed_all xs (fun k => mulQ (nth xs k) a q)
  obtain ⟨n,hn⟩:∃ n,xs.length = n:=⟨_,rfl⟩
  rw [hn] at hcl hm
  unfold scaleL
  rw [← hall,hn]
  have Hc:=Lib.hid hcl;have WX:=Lib.hid wx;have Hn:=Lib.hid hn;clear hcl wx hA hall hn
  go_enter Tryz.func201,Tryz.ntmps201
  go_wp2_with fail
  refine Hc.out.mono ?_
  rintro e w1 ⟨A',c',rfl,_,hown,hb⟩
  have HO:=Lib.hid hown;have HB:=Lib.hid hb;clear hown hb
  go_wp2_with fail
  go_loopw [14] (fun i wr => ∃ k:Nat,k ≤ n ∧ i = .int .i64 k ∧ wr.ownsRow w.heap.size 2 1 (.slice A' n c') n (nums .i64 (mixed xs k (fun k => mulQ (nth xs k) a q))) ∧ Below w.heap.size w wr) (fun i _ => n - (intOf i).toNat)
  case atStart => exact ⟨0,Nat.zero_le _,rfl,by rw [mixed_zero];exact HO.out,HB.out⟩
  case round =>
    obtain ⟨k,hk,rfl,hown,hW⟩:=hrel
    by_cases hlt:k < n
    · obtain ⟨g,d,hv,hg,hgl⟩:=hown.form (by omega)
      simp only [Value.slice.injEq] at hv
      obtain ⟨rfl,hx1,rfl⟩:=hv
      clear hx1
      have hkx:k < xs.length:=by rw [Hn.out];exact hlt
      have p1:=own_num hown hlt
      rw [mixed_nth _ hkx,if_neg (by omega)] at p1
      have hm1:=fun w' => fixMul (nth xs k) a q w' (WX.out k hkx) ha
      have hst:=mixed_set (l:=xs) (k:=k) (fun k => mulQ (nth xs k) a q) hkx
      have Hm:=Lib.hid hm1;have HW:=Lib.hid hW;have HO2:=Lib.hid hown;have Hst:=Lib.hid hst;clear hm1 hW hown hst hkx
      go_wp2_with fail
      refine (Hm.out _).mono ?_
      rintro e w3 ⟨rfl,hb3⟩
      have hown3:=own_below HO2.out hb3
      have p3:∃ u,w3.cell? ⟨g,k,none⟩ = some u:=⟨_,own_num hown3 hlt⟩
      obtain ⟨u3,p3⟩:=p3
      have f3:=hown3.frozenAt k
      have HO3:=Lib.hid (own_put hown3 k (mulQ (nth xs k) a q));have HB3:=Lib.hid ((HW.out.trans (hb3.mono HW.out.size)).setCell (p:=⟨g,k,none⟩) hg (.int .i64 (mulQ (nth xs k) a q)));clear hb3 hown3
      go_wp2_with fail
      go_roundw
      case rel => exact ⟨k + 1,by omega,by go_num,by rw [← Hst.out];exact HO3.out,HB3.out⟩
      case measure => simp [intOf];omega
    · obtain rfl:k = n:=by omega
      have HW:=Lib.hid hW;have HO2:=Lib.hid hown;clear hW hown
      go_wp2_with fail
      go_ret
      exact ⟨_,_,rfl,HO2.out,HW.out⟩
theorem add_any (base:Nat) (A B:Option Addr) (xs ys:List Int) (n c d:Nat) (w:World) (hown:w.ownsRow base 2 1 (.slice A n c) n (nums .i64 xs)) (hB:Rd w B (nums .i64 ys)) (hl:ys.length = n) (hm:n ≤ 17592186043904)
    (hne:∀ a b,A = some a → B = some b → a.block ≠ b.block) :
    Calls Tryz.prog 149 #[.slice A n c,.slice B n d] w fun e w' => e = .returned (.bool true) ∧ w'.ownsRow base 2 1 (.slice A n c) n (nums .i64 (addL xs ys)) ∧ Keep (fun i => (Value.slice A n c).ownBlock = some i) w w':=by
  have hxl:=own_len hown
  have hall:=mixed_all xs (fun k => wrap64 (nth xs k + nth ys k))
  unfold addL
  rw [← hall,hxl]
  have HO:=Lib.hid hown;have HB:=Lib.hid hB;have Hn:=Lib.hid hxl;have Hl:=Lib.hid hl;have HN:=Lib.hid hne;clear hown hB hxl hl hall hne
  go_enter Tryz.func149,Tryz.ntmps149
  go_wp2_with fail
  go_loopw [13] (fun i wr => ∃ k:Nat,k ≤ n ∧ i = .int .i64 k ∧ wr.ownsRow base 2 1 (.slice A n c) n (nums .i64 (mixed xs k (fun k => wrap64 (nth xs k + nth ys k)))) ∧ Keep (fun i => (Value.slice A n c).ownBlock = some i) w wr) (fun i _ => n - (intOf i).toNat)
  case atStart => exact ⟨0,Nat.zero_le _,rfl,by rw [mixed_zero];exact HO.out,Keep.refl _ _⟩
  case round =>
    obtain ⟨k,hk,rfl,hown,hK⟩:=hrel
    by_cases hlt:k < n
    · obtain ⟨g,e,hv,hg,hgl⟩:=hown.form (by omega)
      simp only [Value.slice.injEq] at hv
      obtain ⟨rfl,hx1,rfl⟩:=hv
      clear hx1
      have hkx:k < xs.length:=by rw [Hn.out];exact hlt
      have p1:=own_num hown hlt
      rw [mixed_nth _ hkx,if_neg (by omega)] at p1
      have f1:=hown.frozenAt k
      obtain ⟨b2,o2,rfl,p0⟩:=HB.out.num (show k < ys.length by rw [Hl.out];exact hlt)
      have hgb:g ≠ b2:=HN.out _ _ rfl rfl
      have p2:wr.cell? ⟨b2,o2 + k,none⟩ = some (.int .i64 (nth ys k)):=hK.cell p0 (by simp [Value.ownBlock];exact hgb)
      have hst:=mixed_set (l:=xs) (k:=k) (fun k => wrap64 (nth xs k + nth ys k)) hkx
      have HK:=Lib.hid hK;have HO2:=Lib.hid hown;have Hst:=Lib.hid hst;clear hK hown hst hkx p0
      go_wp2_with fail
      go_region
      all_goals go_wp2_with fail
      all_goals
        go_roundw
        case rel =>
          refine ⟨k + 1,by omega,by go_num,?_,?_⟩
          · rw [← Hst.out];exact own_put (own_drewN HO2.out 1) k _
          · exact Keep.setCell (HK.out.drewN 1) ⟨g,k,none⟩ (.inr rfl) _
        case measure => simp [intOf];omega
    · obtain rfl:k = n:=by omega
      have HK:=Lib.hid hK;have HO2:=Lib.hid hown;clear hK hown
      go_wp2_with fail
      go_ret
      exact ⟨rfl,HO2.out,HK.out⟩
end Go.Proofs.YtaccfnffmbndhaaGreat
namespace Go.Proofs.YtaccfnffmbndhaaGreat
open Go.RowKit
theorem et_u64s:ElemT Tryz.prog 27 231 (.int .u64 0) 1 8:=⟨Tryz.underlying27,info_parts (by kernel_rfl),rfl,by decide⟩
theorem uclone_any (A:Option Addr) (zs:List Int) (c:Nat) (w:World) (hA:Rd w A (nums .u64 zs)) (hl:zs.length ≤ 17592186043904) :
    Calls Tryz.prog 138 #[.slice A zs.length c] w fun e w' => ∃ v,e = .returned v ∧ w'.ownsRow w.heap.size 231 1 v zs.length (nums .u64 zs) ∧ Below w.heap.size w w':=by
  have q:=fun (w:World) => Lib.run_eql_slice_nil (P:=Tryz.prog) w 27 231 A zs.length c 0 0 Tryz.underlying27
  cases A with
  | none =>
    have hz:zs = []:=by
      cases zs with
      | nil => rfl
      | cons z l => obtain ⟨b,o,h,_⟩:=hA 0 _ rfl;cases h
    subst hz
    clear q
    have q:=fun (w:World) => Lib.run_eql_slice_nil (P:=Tryz.prog) w 27 231 none 0 c 0 0 Tryz.underlying27
    simp only [Option.isNone_none] at q
    rw [List.length_nil]
    go_enter Tryz.func138,Tryz.ntmps138
    go_wp2
    go_ret
    exact ⟨_,rfl,World.ownsRow_nil _ _ _ _,Below.refl _ _⟩
  | some a =>
    go_enter Tryz.func138,Tryz.ntmps138
    go_wp2_with (at_builtin;refine wpList_app et_u64s _ rfl (.tmp 5) (.tmp 6) rfl w.heap.size _ 0 [] rfl (own_empty w 231 1) _ zs.length c (nums .u64 zs) rfl (hA.alloc _) (by rw [nums_length];omega) (nums_cell _ _) (by omega) (by unfold maxLen;omega) (by simp) ?_)
    intro A' c' w1 hown hb _ _
    have hb1:=((Below.refl _ w).alloc (Nat.le_refl _) (.cells #[] 231)).trans hb
    have Hown:=Lib.hid hown;have Hb1:=Lib.hid hb1;clear hown hb hb1
    go_wp2
    go_ret
    exact ⟨_,rfl,Hown.out,Hb1.out⟩
def U64 (l:List Int):Prop:=∀ k,k < l.length → 0 ≤ nth l k ∧ nth l k ≤ 18446744073709551615
theorem Keep.below2 {S:Nat → Prop} {w w1 w2:World} (h:Keep S w w1) (hb:Below w.heap.size w1 w2):Keep S w w2:=
  ⟨hb.os.trans h.os,hb.tape.trans h.tape,hb.output.trans h.output,Nat.le_trans h.size hb.size,fun k hk hn => (hb.block k hk).trans (h.block k hk hn)⟩
structure StreamAt (w:World) (b:Nat) (A:Option Addr) (c:Nat) (l:List Int) (i:Nat):Prop where
  blk:w.heap[b]? = some (.cells #[.slice A l.length c,.int .i64 (i:Int)] 235 (0,0))
  rd:Rd w A (nums .u64 l)
  ne:∀ a,A = some a → a.block ≠ b
theorem StreamAt.lt {w:World} {b c i:Nat} {A:Option Addr} {l:List Int} (h:StreamAt w b A c l i):b < w.heap.size:=lt_of_block h.blk
theorem StreamAt.below {w w':World} {b c i:Nat} {A:Option Addr} {l:List Int} (h:StreamAt w b A c l i) (hb:Below w.heap.size w w'):StreamAt w' b A c l i:=
  ⟨(hb.block b h.lt).trans h.blk,h.rd.below hb,h.ne⟩
theorem StreamAt.drewN {w:World} {b c i:Nat} {A:Option Addr} {l:List Int} (h:StreamAt w b A c l i) (n:Nat):StreamAt (w.drewN n) b A c l i:=⟨h.blk,h.rd.drewN n,h.ne⟩
theorem dnew_any (A:Option Addr) (l:List Int) (c:Nat) (w:World) (hA:Rd w A (nums .u64 l)) (hl:l.length ≤ 17592186043904) :
    Calls Tryz.prog 95 #[.slice A l.length c] w fun e w' => ∃ b A' c',e = .returned (.pointer (some ⟨b,0,none⟩)) ∧ StreamAt w' b A' c' l 0 ∧ (∀ a,A' = some a → w.heap.size ≤ a.block) ∧ w.heap.size ≤ b ∧ Below w.heap.size w w':=by
  have hc:=uclone_any A l c w hA hl
  have Hc:=Lib.hid hc;clear hc hA
  go_enter Tryz.func95,Tryz.ntmps95
  go_wp2_with fail
  refine Hc.out.mono ?_
  rintro e w1 ⟨v,rfl,ho,hb⟩
  obtain ⟨A',c',rfl,_⟩:=own_form ho
  have hlt:=ho.lt
  have Ho:=Lib.hid ho;have Hb:=Lib.hid hb;have Hlt:=Lib.hid hlt;clear ho hb hlt
  go_wp2
  go_ret
  have hA':∀ a,A' = some a → w.heap.size ≤ a.block ∧ a.block < w1.heap.size:=fun a ha => by
    subst ha
    rcases Ho.out.2 with ⟨hn,_⟩ | ⟨g,cap,cur,hv,_⟩
    · cases hn
    · simp only [Value.slice.injEq,Option.some.injEq] at hv
      obtain ⟨rfl,_,_⟩:=hv
      exact Hlt.out g rfl
  exact ⟨_,A',c',rfl,⟨heap_alloc_new w1 _,(Rd.own Ho.out).alloc _,fun a ha hab => by have:=(hA' a ha).2;omega⟩,fun a ha => (hA' a ha).1,Hb.out.size,Hb.out.alloc Hb.out.size _⟩
theorem stream_left (b c i:Nat) (A:Option Addr) (l:List Int) (w:World) (h:StreamAt w b A c l i) (hi:i ≤ l.length) (hl:l.length ≤ 17592186043904) :
    Calls Tryz.prog 164 #[.pointer (some ⟨b,0,none⟩)] w fun e w' => e = .returned (.int .i64 ((l.length - i:Nat):Int)) ∧ ∃ d,w' = w.drewN d:=by
  obtain ⟨h1,h2,h3⟩:=h
  obtain ⟨n,hn⟩:∃ n,l.length = n:=⟨_,rfl⟩
  rw [hn] at h1 hi hl ⊢
  obtain ⟨⟨x0,x1⟩,xf⟩:=bx2 h1
  have hb:=lt_of_block h1
  clear h1 h2 h3 hn
  go_enter Tryz.func164,Tryz.ntmps164
  go_wp2_with fail
  go_quiet (fail)
  go_wp2_with fail
  go_ret
  exact ⟨ret_int (by omega),_,rfl⟩
theorem stream_next (b c i m:Nat) (A:Option Addr) (l:List Int) (w:World) (h:StreamAt w b A c l i) (hi:i < l.length) (hl:l.length ≤ 17592186043904) (hu:U64 l) (hm:1 ≤ m) (hm2:m ≤ 1048576) :
    Calls Tryz.prog 166 #[.pointer (some ⟨b,0,none⟩),.int .i64 m] w fun e w' => e = .returned (.tuple #[.int .i64 (nth l i % m),.bool true]) ∧ StreamAt w' b A c l (i + 1) ∧ Keep (fun j => j = b) w w':=by
  have hle:=stream_left b c i A l w h (by omega) hl
  obtain ⟨h1,h2,h3⟩:=h
  obtain ⟨bA,oA,rfl,p⟩:=h2.num hi
  obtain ⟨x,hx⟩:∃ x,nth l i = x:=⟨_,rfl⟩
  have hxb:=hu i hi
  rw [hx] at p hxb ⊢
  obtain ⟨n,hn⟩:∃ n,l.length = n:=⟨_,rfl⟩
  have H1:=Lib.hid h1;have H2:=Lib.hid h2;have H3:=Lib.hid h3;have Hn:=Lib.hid hn
  rw [hn] at h1 hi hl hle
  obtain ⟨⟨x0,x1⟩,xf⟩:=bx2 h1
  have hb:=lt_of_block h1
  have Hle:=Lib.hid hle;clear h1 h2 h3 hn hx hle hu
  have hq1:(((n - i:Nat):Int) == 0) = false:=by rw [beq_eq_false_iff_ne];omega
  have hq2:¬ ((m:Int) < 1):=by omega
  have hii:(i:Int) < n:=by omega
  have hw:wrap64 (x % (m:Int)) = x % (m:Int):=by
    have h1:=Int.emod_nonneg x (show (m:Int) ≠ 0 by omega)
    have h2:=Int.emod_lt_of_pos x (show (0:Int) < (m:Int) by omega)
    generalize x % (m:Int) = y at h1 h2 ⊢
    unfold wrap64;omega
  have Hw:=Lib.hid hw;clear hw
  go_enter Tryz.func166,Tryz.ntmps166
  go_wp2_with fail
  refine Hle.out.mono ?_
  rintro e w' ⟨rfl,d,rfl⟩
  go_wp2_with fail
  go_quiet (fail)
  go_wp2_with fail
  go_ret2
  have hK:Keep (fun j => j = b) w ((w.drewN (d + nq)).setCell ⟨b,1,none⟩ (.int .i64 ((i:Int) + 1))):=Keep.setCell (S:=fun j => j = b) ((Keep.refl _ w).drewN _) ⟨b,1,none⟩ (.inr rfl) _
  refine ⟨by rw [Hw.out];rfl,⟨?_,hK.rd H2.out (fun a ha => H3.out a ha),H3.out⟩,hK⟩
  have:=heap_setCell_same (w.drewN (d + nq)) b 1 _ _ (.int .i64 ((i:Int) + 1)) H1.out
  simpa using this
end Go.Proofs.YtaccfnffmbndhaaGreat
