/- Blocks and epochs, in plain numbers. -/
import Derived.Test.YtaccfnffmbndhaaVecPlain
set_option linter.unusedSimpArgs false
set_option linter.unusedVariables false
namespace Go.Proofs.Ytaccfnffmbndhaa
open Go.RowKit

/-- How many blocks n numbers fill. -/
def cntQ (n size : Nat) : Nat := if n = 0 then 0 else (n - 1) / size + 1
theorem ediv_pred (n s : Nat) (hn : 1 ≤ n) : ((n : Int) - 1) / (s : Int) = (((n - 1) / s : Nat) : Int) := by
  rw [show ((n : Int) - 1) = ((n - 1 : Nat) : Int) by omega, ← Int.natCast_ediv]
theorem cntQ_le (n size : Nat) : cntQ n size ≤ n := by
  unfold cntQ
  split
  · omega
  · have := Nat.div_le_self (n - 1) size
    omega
theorem cntQ_lt {n size k : Nat} (h : k < cntQ n size) : k * size < n := by
  unfold cntQ at h
  split at h
  · omega
  · have h1 : k ≤ (n - 1) / size := by omega
    have h2 := Nat.mul_le_mul_right size h1
    have h3 := Nat.div_mul_le_self (n - 1) size
    omega
/-- The blocks, as cells. -/
def blkVals (n size k : Nat) : List Value := (List.range k).flatMap fun j => [.int .i64 ((j * size : Nat) : Int), .int .i64 ((min (j * size + size) n : Nat) : Int)]
theorem blkVals_succ (n size k : Nat) : blkVals n size (k + 1) = blkVals n size k ++ [.int .i64 ((k * size : Nat) : Int), .int .i64 ((min (k * size + size) n : Nat) : Int)] := by simp [blkVals, List.range_succ, List.flatMap_append]
theorem blkVals_len (n size k : Nat) : (blkVals n size k).length = k * 2 := by
  induction k with
  | zero => simp [blkVals]
  | succ k ih => rw [blkVals_succ, List.length_append, ih]; simp; omega
theorem blkVals_at (n size : Nat) {j k : Nat} (h : j < k) : (blkVals n size k)[j * 2]? = some (.int .i64 ((j * size : Nat) : Int)) ∧ (blkVals n size k)[j * 2 + 1]? = some (.int .i64 ((min (j * size + size) n : Nat) : Int)) := by
  induction k with
  | zero => omega
  | succ k ih =>
    rw [blkVals_succ]
    rcases Nat.lt_or_ge j k with hj | hj
    · obtain ⟨h1, h2⟩ := ih hj
      have hl := blkVals_len n size k
      rw [List.getElem?_append_left (by omega), List.getElem?_append_left (by omega)]
      exact ⟨h1, h2⟩
    · obtain rfl : j = k := by omega
      have hl := blkVals_len n size j
      rw [List.getElem?_append_right (by omega), List.getElem?_append_right (by omega), hl]
      simp
/-- A whole number of blocks. -/
theorem cntQ_whole (n batch : Nat) (hb : 1 ≤ batch) (hn : batch ≤ n) : cntQ (n - n % batch) batch = n / batch := by
  have h1 := Nat.div_add_mod n batch
  have h2 := Nat.div_pos hn hb
  have h3 : n - n % batch = batch * (n / batch) := by omega
  have h4 : 1 ≤ batch * (n / batch) := Nat.mul_pos hb h2
  unfold cntQ
  rw [if_neg (by omega), h3]
  have h5 : batch * (n / batch) - 1 = batch * (n / batch - 1) + (batch - 1) := by
    have : batch * (n / batch) = batch * (n / batch - 1) + batch := by rw [← Nat.mul_succ]; congr 1; omega
    omega
  rw [h5, Nat.mul_add_div hb, show (batch - 1) / batch = 0 from Nat.div_eq_of_lt (by omega)]
  omega
theorem whole_min (n batch j : Nat) (hb : 1 ≤ batch) (hj : j < n / batch) : min (j * batch + batch) (n - n % batch) = j * batch + batch := by
  have h1 := Nat.div_add_mod n batch
  have h2 : (j + 1) * batch ≤ (n / batch) * batch := Nat.mul_le_mul_right _ hj
  rw [Nat.succ_mul] at h2
  have h3 : (n / batch) * batch = batch * (n / batch) := Nat.mul_comm _ _
  omega
theorem whole_le (n batch j : Nat) (hj : j < n / batch) : j * batch + batch ≤ n := by
  have h1 := Nat.div_mul_le_self n batch
  have h2 : (j + 1) * batch ≤ (n / batch) * batch := Nat.mul_le_mul_right _ hj
  rw [Nat.succ_mul] at h2
  omega
/-- The epochs of a run: as the reference counts them, and as the code reckons them. -/
theorem cntQ_eq (n size : Nat) (hs : 1 ≤ size) : cntQ n size = (n + size - 1) / size := by
  unfold cntQ
  split
  · subst_vars; rw [Nat.zero_add, Nat.div_eq_of_lt (by omega)]
  · rw [show n + size - 1 = (n - 1) + size by omega, Nat.add_div_right _ hs]
end Go.Proofs.Ytaccfnffmbndhaa
