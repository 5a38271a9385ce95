/- Dividing a number evenly: what the code reckons, and what the reference counts. -/
import Derived.Test.YtaccfnffmbndhaaPlanPlain
set_option linter.unusedSimpArgs false
set_option linter.unusedVariables false
namespace Go.Proofs.Ytaccfnffmbndhaa

theorem divmod_next (m k : Nat) (hk : 0 < k) : (m % k + 1 < k → (m + 1) / k = m / k ∧ (m + 1) % k = m % k + 1) ∧ (¬ m % k + 1 < k → (m + 1) / k = m / k + 1 ∧ (m + 1) % k = 0) := by
  have h1 := Nat.div_add_mod m k
  have h2 := Nat.mod_lt m hk
  constructor
  · intro h
    have e : m + 1 = (m % k + 1) + k * (m / k) := by omega
    rw [e, Nat.add_mul_div_left _ _ hk, Nat.add_mul_mod_self_left, Nat.div_eq_of_lt h, Nat.mod_eq_of_lt h]
    omega
  · intro h
    have e : m + 1 = k * (m / k + 1) := by rw [Nat.mul_succ]; omega
    rw [e, Nat.mul_div_cancel_left _ hk, Nat.mul_mod_right]
    exact ⟨rfl, rfl⟩
/-- How many of the first m numbers fall to place i. -/
def szE (k m i : Nat) : Nat := m / k + if i < m % k then 1 else 0
theorem szE_zero {k : Nat} (i : Nat) : szE k 0 i = 0 := by simp [szE]
theorem szE_succ {k m i : Nat} (hi : i < k) : szE k (m + 1) i = szE k m i + if i = m % k then 1 else 0 := by
  obtain ⟨h1, h2⟩ := divmod_next m k (by omega)
  have hm := Nat.mod_lt m (show 0 < k by omega)
  unfold szE
  by_cases h : m % k + 1 < k
  · rw [(h1 h).1, (h1 h).2]
    split <;> split <;> split <;> omega
  · rw [(h2 h).1, (h2 h).2]
    split <;> split <;> split <;> omega
theorem bdN_succ (n k i : Nat) : bdN n k (i + 1) = bdN n k i + szE k n i := by
  unfold bdN szE
  rw [Nat.succ_mul]
  split <;> omega
theorem bdN_all (n k : Nat) (hk : 0 < k) : bdN n k k = n := by
  unfold bdN
  have h1 := Nat.div_add_mod n k
  have h2 := Nat.mod_lt n hk
  omega
theorem bdN_mono (n k : Nat) {i j : Nat} (h : i ≤ j) : bdN n k i ≤ bdN n k j := by
  unfold bdN
  have := Nat.mul_le_mul_right (n / k) h
  omega
theorem bdN_le (n k i : Nat) (hk : 0 < k) (h : i ≤ k) : bdN n k i ≤ n := by
  have := bdN_mono n k h
  rwa [bdN_all n k hk] at this
theorem evenR_succ (n k m : Nat) : (List.range (m + 1)).map (fun i => (bdN n k i, bdN n k (i + 1))) = (List.range m).map (fun i => (bdN n k i, bdN n k (i + 1))) ++ [(bdN n k m, bdN n k (m + 1))] := by
  rw [List.range_succ, List.map_append]; rfl
end Go.Proofs.Ytaccfnffmbndhaa
