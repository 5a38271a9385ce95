/- Vectors of fixed-point numbers, in plain lists. -/
import Derived.Test.YtaccfnffmbndhaaLib
import Derived.Test.YtaccfnffmbndhaaFixPlain
set_option linter.unusedSimpArgs false
set_option linter.unusedVariables false
namespace Go.Proofs.Ytaccfnffmbndhaa
open Go.RowKit

/-- Each number is one of 64 bits. -/
def W64 (l : List Int) : Prop := ∀ k, k < l.length → -9223372036854775808 ≤ nth l k ∧ nth l k ≤ 9223372036854775807
theorem nth_mem {l : List Int} {k : Nat} (h : k < l.length) : nth l k ∈ l := by rw [nth_eq l k h]; exact List.getElem_mem h
theorem nth_set (l : List Int) (k : Nat) (v : Int) (j : Nat) : nth (l.set k v) j = if j = k ∧ k < l.length then v else nth l j := by
  unfold nth
  simp only [List.getD_eq_getElem?_getD, List.getElem?_set]
  by_cases h : k = j
  · subst h
    by_cases h2 : k < l.length
    · simp [h2]
    · simp [h2, List.getElem?_eq_none (show l.length ≤ k by omega)]
  · simp [h, Ne.symm h]
theorem W64.set {l : List Int} (h : W64 l) {k : Nat} {v : Int} (hv : -9223372036854775808 ≤ v ∧ v ≤ 9223372036854775807) : W64 (l.set k v) := fun j hj => by
  rw [nth_set]
  split
  · exact hv
  · exact h j (by simpa using hj)
theorem ext_nth {a b : List Int} (hl : a.length = b.length) (h : ∀ k, k < a.length → nth a k = nth b k) : a = b := by
  refine List.ext_getElem hl fun k h1 h2 => ?_
  rw [← nth_eq a k h1, ← nth_eq b k h2]
  exact h k h1
/-- The list of f 0 .. f (n - 1). -/
def upTo (n : Nat) (f : Nat → Int) : List Int := (List.range n).map f
theorem upTo_len (n : Nat) (f : Nat → Int) : (upTo n f).length = n := by simp [upTo]
theorem upTo_nth {n k : Nat} (f : Nat → Int) (h : k < n) : nth (upTo n f) k = f k := by rw [nth_eq _ _ (by rw [upTo_len]; exact h)]; simp [upTo]
theorem upTo_succ (n : Nat) (f : Nat → Int) : upTo (n + 1) f = upTo n f ++ [f n] := by simp [upTo, List.range_succ]
theorem upTo_W64 {n : Nat} {f : Nat → Int} (h : ∀ k, k < n → -9223372036854775808 ≤ f k ∧ f k ≤ 9223372036854775807) : W64 (upTo n f) := fun k hk => by
  rw [upTo_len] at hk
  rw [upTo_nth f hk]; exact h k hk
theorem upTo_congr {n : Nat} {f g : Nat → Int} (h : ∀ k, k < n → f k = g k) : upTo n f = upTo n g := by
  unfold upTo; exact List.map_congr_left fun k hk => h k (List.mem_range.1 hk)
theorem eq_upTo {l : List Int} {n : Nat} {f : Nat → Int} (hl : l.length = n) (h : ∀ k, k < n → nth l k = f k) : l = upTo n f :=
  ext_nth (by rw [upTo_len, hl]) fun k hk => by rw [upTo_nth f (by omega)]; exact h k (by omega)

/-- Where a loop has come to: the first k numbers are f's, the others as they were. -/
def mixed (l : List Int) (k : Nat) (f : Nat → Int) : List Int := upTo l.length fun j => if j < k then f j else nth l j
theorem mixed_len (l : List Int) (k : Nat) (f : Nat → Int) : (mixed l k f).length = l.length := upTo_len _ _
theorem mixed_zero (l : List Int) (f : Nat → Int) : mixed l 0 f = l := (eq_upTo rfl fun k _ => by rw [if_neg (by omega)]).symm
theorem mixed_nth {l : List Int} {k : Nat} (f : Nat → Int) {j : Nat} (hj : j < l.length) : nth (mixed l k f) j = if j < k then f j else nth l j := upTo_nth _ hj
theorem mixed_set {l : List Int} {k : Nat} (f : Nat → Int) (hk : k < l.length) : (mixed l k f).set k (f k) = mixed l (k + 1) f := by
  refine ext_nth (by simp [mixed_len]) fun j hj => ?_
  rw [List.length_set, mixed_len] at hj
  rw [nth_set, mixed_nth f hj, mixed_nth f hj, mixed_len]
  by_cases h1 : j = k
  · subst h1; simp [hk]
  · by_cases h2 : j < k
    · simp [h1, h2, show j < k + 1 by omega]
    · simp [h1, h2, show ¬ j < k + 1 by omega]
theorem mixed_all (l : List Int) (f : Nat → Int) : mixed l l.length f = upTo l.length f := by
  unfold mixed; exact upTo_congr fun k hk => by rw [if_pos hk]

/-- The sum of products. -/
def dotN (xs ys : List Int) (q : Int) : Nat → Int
  | 0 => 0
  | k + 1 => wrap64 (dotN xs ys q k + mulQ (nth xs k) (nth ys k) q)
theorem dotN_bd (xs ys : List Int) (q : Int) (k : Nat) : -9223372036854775808 ≤ dotN xs ys q k ∧ dotN xs ys q k ≤ 9223372036854775807 := by
  cases k with
  | zero => simp [dotN]
  | succ k => exact wrap64_bd _
def dotL (xs ys : List Int) (q : Int) : Int := dotN xs ys q xs.length
/-- A vector, multiplied by a number. -/
def scaleL (xs : List Int) (a q : Int) : List Int := upTo xs.length fun k => mulQ (nth xs k) a q
/-- Two vectors, added. -/
def addL (xs ys : List Int) : List Int := upTo xs.length fun k => wrap64 (nth xs k + nth ys k)
end Go.Proofs.Ytaccfnffmbndhaa
