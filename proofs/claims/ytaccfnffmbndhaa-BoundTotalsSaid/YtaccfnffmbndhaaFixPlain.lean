/- The product of two fixed-point numbers, in plain arithmetic: no program. -/
import Derived.RowKit
set_option linter.unusedSimpArgs false
set_option linter.unusedVariables false
namespace Go.Proofs.Ytaccfnffmbndhaa
open Go.RowKit

/-- The product, shifted, as 64 bits. -/
def mulQ (a b q : Int) : Int := if q < 0 ∨ 62 < q then 0 else wrap64 (a * b / 2 ^ q.toNat)
/-- A word without sign. -/
def uw (x : Int) : Int := x % 18446744073709551616
theorem uw_bd (x : Int) : 0 ≤ uw x ∧ uw x < 18446744073709551616 := by unfold uw; omega
theorem wrap64_bd (x : Int) : -9223372036854775808 ≤ wrap64 x ∧ wrap64 x ≤ 9223372036854775807 := by unfold wrap64; omega
theorem wrap64_uw (x : Int) : wrap64 (uw x) = wrap64 x := by unfold wrap64 uw; omega
theorem wrap64_eq {x y : Int} (h : ∃ k : Int, x = y + k * 18446744073709551616) : wrap64 x = wrap64 y := by
  obtain ⟨k, rfl⟩ := h
  unfold wrap64; omega
theorem wrap64_id {x : Int} (h1 : -9223372036854775808 ≤ x) (h2 : x ≤ 9223372036854775807) : wrap64 x = x := by unfold wrap64; omega
theorem mulQ_bd (a b q : Int) : -9223372036854775808 ≤ mulQ a b q ∧ mulQ a b q ≤ 9223372036854775807 := by
  unfold mulQ
  split
  · omega
  · exact wrap64_bd _

/-- The product's upper half. -/
def prodHi (a b : Int) : Int := a * b / 18446744073709551616
/-- The product's lower half. -/
def prodLo (a b : Int) : Int := uw (a * b)
theorem prod_eq (a b : Int) : prodHi a b * 18446744073709551616 + prodLo a b = a * b := by unfold prodHi prodLo uw; omega

theorem mul_bd {a b : Int} (ha : -9223372036854775808 ≤ a ∧ a ≤ 9223372036854775807) (hb : -9223372036854775808 ≤ b ∧ b ≤ 9223372036854775807) : -85070591730234615865843651857942052864 ≤ a * b ∧ a * b ≤ 85070591730234615865843651857942052864 := by
  have h1 : a.natAbs ≤ 9223372036854775808 := by omega
  have h2 : b.natAbs ≤ 9223372036854775808 := by omega
  have h3 := Nat.mul_le_mul h1 h2
  rw [← Int.natAbs_mul] at h3
  omega
theorem prodHi_bd {a b : Int} (ha : -9223372036854775808 ≤ a ∧ a ≤ 9223372036854775807) (hb : -9223372036854775808 ≤ b ∧ b ≤ 9223372036854775807) : -9223372036854775808 ≤ prodHi a b ∧ prodHi a b ≤ 9223372036854775807 := by
  have := mul_bd ha hb
  unfold prodHi; omega

/-- 64 bits of a number with 128 bits. -/
theorem shift_eq (a b : Int) (q : Nat) (hq : q ≤ 62) : prodHi a b * 2 ^ (64 - q) + prodLo a b / 2 ^ q = a * b / 2 ^ q := by
  have e : (18446744073709551616 : Int) = 2 ^ (64 - q) * 2 ^ q := by rw [← Int.pow_add, show 64 - q + q = 64 by omega]; rfl
  have hp : (2 : Int) ^ q ≠ 0 := by have := Int.pow_pos (n := 2) (m := q) (by decide); omega
  have h := prod_eq a b
  rw [← h, e, ← Int.mul_assoc, Int.add_comm (prodHi a b * 2 ^ (64 - q) * 2 ^ q), Int.add_mul_ediv_right _ _ hp, Int.add_comm]

theorem wrap64_sub (x y : Int) : wrap64 (wrap64 x - y) = wrap64 (x - y) := by unfold wrap64; omega
theorem wrap64_add (x y : Int) : wrap64 (wrap64 x + y) = wrap64 (x + y) := by unfold wrap64; omega
theorem wrap64_add_r (x y : Int) : wrap64 (x + wrap64 y) = wrap64 (x + y) := by unfold wrap64; omega
theorem wrap64_wrap (x : Int) : wrap64 (wrap64 x) = wrap64 x := by unfold wrap64; omega

/-- The product of the words without sign, and what it lacks. -/
theorem words_mul (a b : Int) (ha : -9223372036854775808 ≤ a ∧ a ≤ 9223372036854775807) (hb : -9223372036854775808 ≤ b ∧ b ≤ 9223372036854775807) :
    uw a * uw b = a * b + ((if a < 0 then b else 0) + (if b < 0 then a else 0) + (if a < 0 ∧ b < 0 then 18446744073709551616 else 0)) * 18446744073709551616 := by
  by_cases h1 : a < 0
  · have e1 : uw a = a + 18446744073709551616 := by unfold uw; omega
    by_cases h2 : b < 0
    · have e2 : uw b = b + 18446744073709551616 := by unfold uw; omega
      rw [e1, e2, if_pos h1, if_pos h2, if_pos ⟨h1, h2⟩, Int.add_mul, Int.mul_add]
      omega
    · have e2 : uw b = b := by unfold uw; omega
      rw [e1, e2, if_pos h1, if_neg h2, if_neg (fun h => h2 h.2), Int.add_mul]
      omega
  · have e1 : uw a = a := by unfold uw; omega
    by_cases h2 : b < 0
    · have e2 : uw b = b + 18446744073709551616 := by unfold uw; omega
      rw [e1, e2, if_neg h1, if_pos h2, if_neg (fun h => h1 h.1), Int.mul_add]
      omega
    · have e2 : uw b = b := by unfold uw; omega
      rw [e1, e2, if_neg h1, if_neg h2, if_neg (fun h => h1 h.1)]
      omega
theorem words_hi (a b : Int) (ha : -9223372036854775808 ≤ a ∧ a ≤ 9223372036854775807) (hb : -9223372036854775808 ≤ b ∧ b ≤ 9223372036854775807) :
    wrap64 (uw a * uw b / 18446744073709551616 - (if a < 0 then b else 0) - (if b < 0 then a else 0)) = prodHi a b := by
  rw [words_mul a b ha hb, Int.add_mul_ediv_right _ _ (by decide)]
  have h := prodHi_bd ha hb
  rw [← wrap64_id h.1 h.2]
  refine wrap64_eq ⟨if a < 0 ∧ b < 0 then 1 else 0, ?_⟩
  unfold prodHi
  by_cases h1 : a < 0
  · by_cases h2 : b < 0
    · simp only [h1, h2, if_true, and_self]; omega
    · simp only [h1, h2, if_true, if_false, and_false]; omega
  · by_cases h2 : b < 0
    · simp only [h1, h2, if_true, if_false, false_and]; omega
    · simp only [h1, h2, if_false, false_and]; omega
theorem words_lo (a b : Int) (ha : -9223372036854775808 ≤ a ∧ a ≤ 9223372036854775807) (hb : -9223372036854775808 ≤ b ∧ b ≤ 9223372036854775807) : uw (uw a * uw b) = prodLo a b := by
  rw [words_mul a b ha hb]
  unfold prodLo uw
  rw [Int.add_mul_emod_self_right]
theorem uw_nat (a : Int) : ∃ X : Nat, uw a = X ∧ X < 18446744073709551616 := ⟨(uw a).toNat, by have := uw_bd a; omega, by have := uw_bd a; omega⟩
end Go.Proofs.Ytaccfnffmbndhaa
