/- The values of a network, layer by layer, in plain lists. -/
import Derived.Test.YtfiojofcafjfeaaNetPlain
import Derived.Test.YtfiojofcafjfeaaMatM
set_option linter.unusedSimpArgs false
set_option linter.unusedVariables false
namespace Go.Proofs.Ytfiojofcafjfeaa
open Go.RowKit

def reluL (l : List Int) : List Int := upTo l.length fun i => max (nth l i) 0
/-- The sums behind layer k. -/
def zL (sz ps : List Int) (q : Int) (k : Nat) (v : List Int) : List Int := addL (mulL (wL sz ps k) (szN sz (k + 1)) (szN sz k) v q) (bL sz ps k)
/-- The values of layer k. -/
def valL (sz ps : List Int) (q : Int) (x : List Int) : Nat → List Int
  | 0 => x
  | k + 1 => if k + 1 < sz.length - 1 then reluL (zL sz ps q k (valL sz ps q x k)) else zL sz ps q k (valL sz ps q x k)

theorem W64.nth {l : List Int} (h : W64 l) (k : Nat) : -9223372036854775808 ≤ nth l k ∧ nth l k ≤ 9223372036854775807 := by
  by_cases hk : k < l.length
  · exact h k hk
  · have : Go.Proofs.Ytfiojofcafjfeaa.nth l k = 0 := by unfold Go.Proofs.Ytfiojofcafjfeaa.nth; simp [List.getD, List.getElem?_eq_none (show l.length ≤ k by omega)]
    omega
theorem wL_W64 {ps : List Int} (h : W64 ps) (sz : List Int) (k : Nat) : W64 (wL sz ps k) := upTo_W64 fun _ _ => h.nth _
theorem bL_W64 {ps : List Int} (h : W64 ps) (sz : List Int) (k : Nat) : W64 (bL sz ps k) := upTo_W64 fun _ _ => h.nth _
theorem dotL_bd (xs ys : List Int) (q : Int) : -9223372036854775808 ≤ dotL xs ys q ∧ dotL xs ys q ≤ 9223372036854775807 := dotN_bd _ _ _ _
theorem mulL_W64 (ms : List Int) (r c : Nat) (xs : List Int) (q : Int) : W64 (mulL ms r c xs q) := upTo_W64 fun _ _ => dotL_bd _ _ _
theorem mulL_len (ms : List Int) (r c : Nat) (xs : List Int) (q : Int) : (mulL ms r c xs q).length = r := upTo_len _ _
theorem addL_len (xs ys : List Int) : (addL xs ys).length = xs.length := upTo_len _ _
theorem addL_W64 (xs ys : List Int) : W64 (addL xs ys) := upTo_W64 fun _ _ => wrap64_bd _
theorem reluL_len (l : List Int) : (reluL l).length = l.length := upTo_len _ _
theorem reluL_W64 {l : List Int} (h : W64 l) : W64 (reluL l) := upTo_W64 fun k _ => by have := h.nth k; omega
theorem zL_len (sz ps : List Int) (q : Int) (k : Nat) (v : List Int) : (zL sz ps q k v).length = szN sz (k + 1) := by unfold zL; rw [addL_len, mulL_len]
theorem zL_W64 (sz ps : List Int) (q : Int) (k : Nat) (v : List Int) : W64 (zL sz ps q k v) := addL_W64 _ _
theorem valL_len {sz ps : List Int} {q : Int} {x : List Int} (h : x.length = szN sz 0) (k : Nat) : (valL sz ps q x k).length = szN sz k := by
  cases k with
  | zero => exact h
  | succ k =>
    unfold valL
    split
    · rw [reluL_len, zL_len]
    · rw [zL_len]
theorem valL_W64 {sz ps : List Int} {q : Int} {x : List Int} (h : W64 x) (k : Nat) : W64 (valL sz ps q x k) := by
  cases k with
  | zero => exact h
  | succ k =>
    unfold valL
    split
    · exact reluL_W64 (zL_W64 _ _ _ _ _)
    · exact zL_W64 _ _ _ _ _

/-- Vectors in memory, the cells of their slices. -/
def VecsAt (w : World) (vals : List Value) (n : Nat) (f : Nat → List Int) : Prop := vals.length = n ∧ ∀ j, j < n → ∃ A c, vals[j]? = some (.slice A (f j).length c) ∧ (f j).length ≤ c ∧ Rd w A (nums .i64 (f j))
theorem VecsAt.below {w w' : World} {vals : List Value} {n : Nat} {f : Nat → List Int} (h : VecsAt w vals n f) (hb : Below w.heap.size w w') : VecsAt w' vals n f :=
  ⟨h.1, fun j hj => by obtain ⟨A, c, h1, h2, h3⟩ := h.2 j hj; exact ⟨A, c, h1, h2, h3.below hb⟩⟩
end Go.Proofs.Ytfiojofcafjfeaa
