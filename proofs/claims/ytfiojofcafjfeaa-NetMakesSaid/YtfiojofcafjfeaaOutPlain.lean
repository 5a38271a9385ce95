/- The matrix of all products of two columns, in plain lists. -/
import Derived.Test.YtfiojofcafjfeaaVecPlain
set_option linter.unusedSimpArgs false
set_option linter.unusedVariables false
namespace Go.Proofs.Ytfiojofcafjfeaa
open Go.RowKit

/-- The product at place i. -/
def outV (c : Nat) (ys xs : List Int) (q : Int) (i : Nat) : Int := mulQ (nth ys (i / c)) (nth xs (i % c)) q
def outerL (r c : Nat) (ys xs : List Int) (q : Int) : List Int := upTo (r * c) (outV c ys xs q)
/-- Where the loops have come to: the rows of pre are done, and row x up to column j. -/
def outS (r c : Nat) (ys xs : List Int) (q : Int) (pre : List Nat) (x j : Nat) : List Int := upTo (r * c) fun i => if i / c ∈ pre ∨ (i / c = x ∧ i % c < j) then outV c ys xs q i else 0
theorem outS_len (r c : Nat) (ys xs : List Int) (q : Int) (pre : List Nat) (x j : Nat) : (outS r c ys xs q pre x j).length = r * c := upTo_len _ _
theorem outS_zero (r c : Nat) (ys xs : List Int) (q : Int) (x : Nat) : List.replicate (r * c) 0 = outS r c ys xs q [] x 0 :=
  eq_upTo (by simp) fun k hk => by
    rw [nth_eq _ _ (by simpa using hk)]
    simp
theorem outS_set {r c : Nat} {ys xs : List Int} {q : Int} {pre : List Nat} {x j : Nat} (hx : x < r) (hj : j < c) : (outS r c ys xs q pre x j).set (x * c + j) (mulQ (nth ys x) (nth xs j) q) = outS r c ys xs q pre x (j + 1) := by
  have hroom : x * c + j < r * c := by
    have := Nat.mul_le_mul_right c (show x + 1 ≤ r by omega)
    rw [Nat.succ_mul] at this
    omega
  have hd : (x * c + j) / c = x := by rw [Nat.add_comm, Nat.add_mul_div_right _ _ (by omega), Nat.div_eq_of_lt hj, Nat.zero_add]
  have hmd : (x * c + j) % c = j := by rw [Nat.add_comm, Nat.add_mul_mod_self_right, Nat.mod_eq_of_lt hj]
  refine ext_nth (by rw [List.length_set, outS_len, outS_len]) fun i hi => ?_
  rw [List.length_set, outS_len] at hi
  rw [nth_set, outS_len]
  unfold outS
  rw [upTo_nth _ hi, upTo_nth _ hi]
  by_cases h : i = x * c + j
  · subst h
    rw [if_pos ⟨rfl, hroom⟩, if_pos (.inr ⟨hd, by omega⟩)]
    unfold outV
    rw [hd, hmd]
  · rw [if_neg (fun hh => h hh.1)]
    have hne : ¬ (i / c = x ∧ i % c = j) := fun hh => h (by rw [← hh.1, ← hh.2, Nat.mul_comm]; exact (Nat.div_add_mod i c).symm)
    by_cases h1 : i / c ∈ pre ∨ (i / c = x ∧ i % c < j)
    · rw [if_pos h1, if_pos (h1.imp id fun hh => ⟨hh.1, by omega⟩)]
    · rw [if_neg h1, if_neg]
      rintro (h2 | ⟨h2, h3⟩)
      · exact h1 (.inl h2)
      · exact h1 (.inr ⟨h2, by
          rcases Nat.lt_or_ge (i % c) j with h4 | h4
          · exact h4
          · exact absurd ⟨h2, by omega⟩ hne⟩)
theorem outS_all {r c : Nat} {ys xs : List Int} {q : Int} {pre : List Nat} {x : Nat} (hc : 1 ≤ c) (y : Nat) : outS r c ys xs q pre x c = outS r c ys xs q (pre ++ [x]) y 0 := by
  unfold outS
  refine upTo_congr fun i hi => ?_
  have hm : i % c < c := Nat.mod_lt _ (by omega)
  by_cases h1 : i / c ∈ pre ∨ (i / c = x ∧ i % c < c)
  · rw [if_pos h1, if_pos]
    rcases h1 with h | ⟨h, _⟩
    · exact .inl (List.mem_append.2 (.inl h))
    · exact .inl (List.mem_append.2 (.inr (by simp [h])))
  · rw [if_neg h1, if_neg]
    rintro (h2 | ⟨_, h3⟩)
    · rcases List.mem_append.1 h2 with h | h
      · exact h1 (.inl h)
      · exact h1 (.inr ⟨by simpa using h, hm⟩)
    · omega
theorem outS_start {r c : Nat} {ys xs : List Int} {q : Int} {pre : List Nat} (x y : Nat) : outS r c ys xs q pre x 0 = outS r c ys xs q pre y 0 := by
  unfold outS
  exact upTo_congr fun i hi => by simp
theorem outS_done {r c : Nat} {ys xs : List Int} {q : Int} (hc : 1 ≤ c) (y : Nat) : outS r c ys xs q (List.range r) y 0 = outerL r c ys xs q := by
  unfold outS outerL
  refine upTo_congr fun i hi => ?_
  rw [if_pos]
  refine .inl (List.mem_range.2 ?_)
  exact (Nat.div_lt_iff_lt_mul (by omega)).2 hi
end Go.Proofs.Ytfiojofcafjfeaa
