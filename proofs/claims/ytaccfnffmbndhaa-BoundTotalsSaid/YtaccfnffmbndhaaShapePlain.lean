/- The layout of the parameters of a network, in plain numbers. -/
import Derived.Test.YtaccfnffmbndhaaVecPlain
set_option linter.unusedSimpArgs false
set_option linter.unusedVariables false
namespace Go.Proofs.Ytaccfnffmbndhaa
open Go.RowKit

/-- The number of values in layer k. -/
def szN (sz : List Int) (k : Nat) : Nat := (nth sz k).toNat
/-- The number of parameters ahead of the weights behind layer k. -/
def cntN (sz : List Int) : Nat → Nat
  | 0 => 0
  | k + 1 => cntN sz k + (szN sz k + 1) * szN sz (k + 1)
/-- Where the weights behind layer k end. -/
def midN (sz : List Int) (k : Nat) : Nat := cntN sz k + szN sz (k + 1) * szN sz k
/-- Sizes that a shape may have. -/
def RightSz (sz : List Int) : Prop := (2 ≤ sz.length ∧ sz.length ≤ 16) ∧ ∀ k, k < sz.length → 1 ≤ nth sz k ∧ nth sz k ≤ 1048576
/-- Sizes with not too many parameters. -/
def GoodSz (sz : List Int) : Prop := RightSz sz ∧ cntN sz (sz.length - 1) ≤ 1048576

theorem RightSz.at {sz : List Int} (h : RightSz sz) {k : Nat} (hk : k < sz.length) : 1 ≤ szN sz k ∧ szN sz k ≤ 1048576 ∧ nth sz k = (szN sz k : Int) := by
  have := h.2 k hk
  unfold szN; omega
theorem midN_eq (sz : List Int) (k : Nat) : midN sz k + szN sz (k + 1) = cntN sz (k + 1) := by
  unfold midN
  rw [cntN, Nat.add_mul, Nat.one_mul, Nat.mul_comm (szN sz k)]; omega
theorem RightSz.mul {sz : List Int} (h : RightSz sz) {k : Nat} (hk : k + 1 < sz.length) : szN sz (k + 1) * szN sz k ≤ 1099511627776 := by
  have h1 := h.at hk
  have h2 := h.at (k := k) (by omega)
  exact Nat.mul_le_mul h1.2.1 h2.2.1
theorem RightSz.cnt {sz : List Int} (h : RightSz sz) : ∀ k, k < sz.length → cntN sz k ≤ k * 1099512676352 := by
  intro k
  induction k with
  | zero => intro _; simp [cntN]
  | succ k ih =>
    intro hk
    have h1 := ih (by omega)
    have h2 := h.mul hk
    have h3 := (h.at hk).2.1
    have h4 := midN_eq sz k
    unfold midN at h4
    omega
theorem cntN_mono (sz : List Int) {j k : Nat} (h : j ≤ k) : cntN sz j ≤ cntN sz k := by
  induction h with
  | refl => exact Nat.le_refl _
  | step _ ih => rw [cntN]; omega
theorem RightSz.bound {sz : List Int} (h : RightSz sz) {k : Nat} (hk : k < sz.length) : cntN sz k ≤ 17592202821632 := by
  have h1 := h.cnt k hk
  have h2 := h.1.2
  have : k * 1099512676352 ≤ 16 * 1099512676352 := Nat.mul_le_mul_right _ (by omega)
  omega
theorem GoodSz.bound {sz : List Int} (h : GoodSz sz) {k : Nat} (hk : k < sz.length) : cntN sz k ≤ 1048576 := Nat.le_trans (cntN_mono sz (by omega)) h.2
theorem GoodSz.mul {sz : List Int} (h : GoodSz sz) {k : Nat} (hk : k + 1 < sz.length) : szN sz (k + 1) * szN sz k ≤ 1048576 := by
  have h1 := h.bound hk
  have h2 := midN_eq sz k
  unfold midN at h2
  omega

/-- The cells of the first k ranges of weights, of biases. -/
def wVals (sz : List Int) (k : Nat) : List Value := (List.range k).flatMap fun j => [.int .i64 (cntN sz j : Int), .int .i64 (midN sz j : Int)]
def bVals (sz : List Int) (k : Nat) : List Value := (List.range k).flatMap fun j => [.int .i64 (midN sz j : Int), .int .i64 (cntN sz (j + 1) : Int)]
theorem wVals_succ (sz : List Int) (k : Nat) : wVals sz (k + 1) = wVals sz k ++ [.int .i64 (cntN sz k : Int), .int .i64 (midN sz k : Int)] := by simp [wVals, List.range_succ, List.flatMap_append]
theorem bVals_succ (sz : List Int) (k : Nat) : bVals sz (k + 1) = bVals sz k ++ [.int .i64 (midN sz k : Int), .int .i64 (cntN sz (k + 1) : Int)] := by simp [bVals, List.range_succ, List.flatMap_append]
theorem wVals_len (sz : List Int) (k : Nat) : (wVals sz k).length = k * 2 := by
  induction k with
  | zero => rfl
  | succ k ih => rw [wVals_succ, List.length_append, ih]; simp; omega
theorem bVals_len (sz : List Int) (k : Nat) : (bVals sz k).length = k * 2 := by
  induction k with
  | zero => rfl
  | succ k ih => rw [bVals_succ, List.length_append, ih]; simp; omega
theorem wVals_at (sz : List Int) {j n : Nat} (h : j < n) : (wVals sz n)[j * 2]? = some (.int .i64 (cntN sz j : Int)) ∧ (wVals sz n)[j * 2 + 1]? = some (.int .i64 (midN sz j : Int)) := by
  induction n with
  | zero => omega
  | succ n ih =>
    rw [wVals_succ]
    by_cases hj : j < n
    · have := ih hj
      rw [List.getElem?_append_left (by rw [wVals_len]; omega), List.getElem?_append_left (by rw [wVals_len]; omega)]
      exact this
    · obtain rfl : j = n := by omega
      rw [List.getElem?_append_right (by rw [wVals_len]; omega), List.getElem?_append_right (by rw [wVals_len]; omega), wVals_len]
      simp
theorem bVals_at (sz : List Int) {j n : Nat} (h : j < n) : (bVals sz n)[j * 2]? = some (.int .i64 (midN sz j : Int)) ∧ (bVals sz n)[j * 2 + 1]? = some (.int .i64 (cntN sz (j + 1) : Int)) := by
  induction n with
  | zero => omega
  | succ n ih =>
    rw [bVals_succ]
    by_cases hj : j < n
    · have := ih hj
      rw [List.getElem?_append_left (by rw [bVals_len]; omega), List.getElem?_append_left (by rw [bVals_len]; omega)]
      exact this
    · obtain rfl : j = n := by omega
      rw [List.getElem?_append_right (by rw [bVals_len]; omega), List.getElem?_append_right (by rw [bVals_len]; omega), bVals_len]
      simp

/-- A shape in memory: its sizes, its ranges, its number. -/
def ShapeAt (T : TypeId) (w : World) (b : Nat) (sz : List Int) : Prop := ∃ A1 c1 A2 c2 A3 c3,
  w.heap[b]? = some (.cells #[.slice A1 sz.length c1, .slice A2 (sz.length - 1) c2, .slice A3 (sz.length - 1) c3, .int .i64 (cntN sz (sz.length - 1) : Int)] T (0, 0)) ∧
  Rd w A1 (nums .i64 sz) ∧ Rd w A2 (wVals sz (sz.length - 1)) ∧ Rd w A3 (bVals sz (sz.length - 1))
theorem ShapeAt.below {T : TypeId} {w w' : World} {b : Nat} {sz : List Int} (h : ShapeAt T w b sz) (hb : Below w.heap.size w w') : ShapeAt T w' b sz := by
  obtain ⟨A1, c1, A2, c2, A3, c3, h0, h1, h2, h3⟩ := h
  exact ⟨A1, c1, A2, c2, A3, c3, (hb.block b (lt_of_block h0)).trans h0, h1.below hb, h2.below hb, h3.below hb⟩
theorem ShapeAt.lt {T : TypeId} {w : World} {b : Nat} {sz : List Int} (h : ShapeAt T w b sz) : b < w.heap.size := by
  obtain ⟨A1, c1, A2, c2, A3, c3, h0, _⟩ := h
  exact lt_of_block h0
end Go.Proofs.Ytaccfnffmbndhaa
