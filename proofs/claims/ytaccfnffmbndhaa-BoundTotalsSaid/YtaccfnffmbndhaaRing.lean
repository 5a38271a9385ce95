/- ring: around, scatter, gather, Segment. -/
import Derived.Test.YtaccfnffmbndhaaMsgs
set_option linter.unusedSimpArgs false
set_option linter.unusedVariables false
namespace Go.Proofs.Ytaccfnffmbndhaa
open Go.RowKit

theorem tmod_emod (n : Int) (W : Nat) (h : 1 ≤ W) : n % (W : Int) = if n.tmod W < 0 then n.tmod W + W else n.tmod W := by
  rw [Int.tmod_eq_emod]
  have h1 := Int.emod_nonneg n (show (W : Int) ≠ 0 by omega)
  have h2 := Int.emod_lt_of_pos n (show (0 : Int) < W by omega)
  have hna : ((W : Int).natAbs : Int) = W := by simp
  split <;> split <;> omega
theorem tmod_in (n : Int) (W : Nat) (h : 1 ≤ W) : -(W : Int) < n.tmod W ∧ n.tmod W < W := by
  rw [Int.tmod_eq_emod]
  have h1 := Int.emod_nonneg n (show (W : Int) ≠ 0 by omega)
  have h2 := Int.emod_lt_of_pos n (show (0 : Int) < W by omega)
  have hna : ((W : Int).natAbs : Int) = W := by simp
  split
  · omega
  · rename_i hh
    have : n % (W : Int) ≠ 0 := fun e => hh (.inr (Int.dvd_of_emod_eq_zero e))
    omega

set_option maxRecDepth 100000 in
theorem around_any (st bk lo hi W c : Nat) (n : Int) (w : World) (h1 : 1 ≤ W) (h2 : W ≤ 1048576) (hn : -(W : Int) ≤ n) (hn2 : n ≤ 2 * W) :
    Calls Try.prog 62 #[.agg #[.int .i64 (st : Nat), .int .i64 (bk : Nat), .int .i64 (lo : Nat), .int .i64 (hi : Nat), .int .i64 (W : Nat), .int .i64 (c : Nat)], .int .i64 n] w fun e w' => e = .returned (.int .i64 (n % (W : Int))) ∧ Below w.heap.size w w' := by
  have hz : ¬ ((W : Int) = 0) := by omega
  have hm := tmod_in n W h1
  have he := tmod_emod n W h1
  obtain ⟨r, hr⟩ : ∃ r, n.tmod (W : Int) = r := ⟨_, rfl⟩
  rw [hr] at hm he
  by_cases hneg : r < 0
  · rw [if_pos hneg] at he
    rw [he]
    have HH := Lib.hid he
    clear he
    go_enter Try.func62, Try.ntmps62
    go_wp2_with fail
    go_ret
    exact ⟨rfl, (br w).alloc (Nat.le_refl _) _⟩
  · rw [if_neg hneg] at he
    rw [he]
    have HH := Lib.hid he
    clear he
    go_enter Try.func62, Try.ntmps62
    go_wp2_with fail
    go_ret
    exact ⟨rfl, (br w).alloc (Nat.le_refl _) _⟩
set_option maxRecDepth 100000 in
theorem scatter_any (st bk lo hi W c x r : Nat) (w : World) (h1 : 1 ≤ W) (h2 : W ≤ 1048576) (hx : x < W) (hr : r < W) :
    Calls Try.prog 60 #[.agg #[.int .i64 (st : Nat), .int .i64 (bk : Nat), .int .i64 (lo : Nat), .int .i64 (hi : Nat), .int .i64 (W : Nat), .int .i64 (c : Nat)], .int .i64 x, .int .i64 r] w fun e w' => e = .returned (.int .i64 (((x : Int) - r) % (W : Int))) ∧ Below w.heap.size w w' := by
  have ha := fun w' => around_any st bk lo hi W c ((x : Int) - r) w' h1 h2 (by omega) (by omega)
  have Ha := Lib.hid ha
  clear ha
  go_enter Try.func60, Try.ntmps60
  go_wp2_with fail
  refine (Ha.out _).mono ?_
  rintro e w1 ⟨rfl, k1⟩
  have hB : Below w.heap.size w w1 := ((br w).alloc (Nat.le_refl _) _).trans (k1.mono (by simp))
  clear k1
  go_wp2_with fail
  go_ret
  exact ⟨rfl, hB⟩
set_option maxRecDepth 100000 in
theorem gather_any (st bk lo hi W c x r : Nat) (w : World) (h1 : 1 ≤ W) (h2 : W ≤ 1048576) (hx : x < W) (hr : r < W) :
    Calls Try.prog 61 #[.agg #[.int .i64 (st : Nat), .int .i64 (bk : Nat), .int .i64 (lo : Nat), .int .i64 (hi : Nat), .int .i64 (W : Nat), .int .i64 (c : Nat)], .int .i64 x, .int .i64 r] w fun e w' => e = .returned (.int .i64 (((x : Int) + 1 - r) % (W : Int))) ∧ Below w.heap.size w w' := by
  have ha := fun w' => around_any st bk lo hi W c ((x : Int) + 1 - r) w' h1 h2 (by omega) (by omega)
  have Ha := Lib.hid ha
  clear ha
  go_enter Try.func61, Try.ntmps61
  go_wp2_with fail
  refine (Ha.out _).mono ?_
  rintro e w1 ⟨rfl, k1⟩
  have hB : Below w.heap.size w w1 := ((br w).alloc (Nat.le_refl _) _).trans (k1.mono (by simp))
  clear k1
  go_wp2_with fail
  go_ret
  exact ⟨rfl, hB⟩

theorem segOut_int {W x ph r : Nat} (hr : r < W) (n : Int) (hn : n = (x : Int) + ph - r) : n % (W : Int) = ((segOut W x ph r : Nat) : Int) := by
  unfold segOut
  rw [Int.natCast_emod, show ((x + (2 * W + ph - r) : Nat) : Int) = n + 2 * W by omega, Int.add_mul_emod_self_right]
theorem segIn_int {W x ph r : Nat} (hr : r + 1 ≤ W) (n : Int) (hn : n = ((x : Int) - 1) % (W : Int) + ph - r) : n % (W : Int) = ((segIn W x ph r : Nat) : Int) := by
  unfold segIn
  rw [Int.natCast_emod, show ((x + (2 * W + ph - r - 1) : Nat) : Int) = ((x : Int) - 1 + ph - r) + 2 * W by omega, Int.add_mul_emod_self_right, hn, Int.add_sub_assoc, Int.emod_add_emod, Int.add_sub_assoc]
end Go.Proofs.Ytaccfnffmbndhaa
