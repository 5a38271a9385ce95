/- The gradient of a network, in plain lists. -/
import Derived.Test.YtfiojofcafjfeaaNetVal
import Derived.Test.YtfiojofcafjfeaaNetM
import Derived.Test.YtfiojofcafjfeaaMatB
import Derived.Test.YtfiojofcafjfeaaOutPlain
set_option linter.unusedSimpArgs false
set_option linter.unusedVariables false
namespace Go.Proofs.Ytfiojofcafjfeaa
open Go.RowKit

/-- One list gated by another. -/
def gateL (v d : List Int) : List Int := upTo d.length fun i => if 0 < nth v i then nth d i else 0
theorem gateL_len (v d : List Int) : (gateL v d).length = d.length := upTo_len _ _
theorem gateL_W64 {v d : List Int} (h : W64 d) : W64 (gateL v d) := upTo_W64 fun k hk => by
  split
  · exact h k hk
  · omega
theorem backL_len (ms : List Int) (r c : Nat) (ys : List Int) (q : Int) : (backL ms r c ys q).length = c := by
  unfold backL
  have : ∀ (l : List Nat) (acc : List Int), acc.length = c → (l.foldl (backF ms c ys q) acc).length = c := by
    intro l
    induction l with
    | nil => intro acc h; exact h
    | cons a l ih => intro acc h; exact ih _ (by rw [backF_len]; exact h)
  exact this _ _ (by simp)
theorem backL_W64 (ms : List Int) (r c : Nat) (ys : List Int) (q : Int) : W64 (backL ms r c ys q) := by
  unfold backL
  have : ∀ (l : List Nat) (acc : List Int), W64 acc → W64 (l.foldl (backF ms c ys q) acc) := by
    intro l
    induction l with
    | nil => intro acc h; exact h
    | cons a l ih => intro acc h; exact ih _ (addL_W64 _ _)
  exact this _ _ (fun k hk => by rw [nth_eq _ _ hk]; simp)

/-- The errors of the layer that is j behind the last one. -/
def errD (sz ps : List Int) (q : Int) (x y : List Int) : Nat → List Int
  | 0 => missL (valL sz ps q x (sz.length - 1)) y
  | j + 1 => gateL (valL sz ps q x (sz.length - 2 - j)) (backL (wL sz ps (sz.length - 2 - j)) (szN sz (sz.length - 1 - j)) (szN sz (sz.length - 2 - j)) (errD sz ps q x y j) q)
/-- The last parts of the gradient. -/
def gradT (sz ps : List Int) (q : Int) (x y : List Int) : Nat → List Int
  | 0 => []
  | j + 1 => outerL (szN sz (sz.length - 1 - j)) (szN sz (sz.length - 2 - j)) (errD sz ps q x y j) (valL sz ps q x (sz.length - 2 - j)) q ++ (errD sz ps q x y j ++ gradT sz ps q x y j)
/-- The gradient. -/
def gradL (sz ps : List Int) (q : Int) (x y : List Int) : List Int := gradT sz ps q x y (sz.length - 1)

theorem outerL_len (r c : Nat) (ys xs : List Int) (q : Int) : (outerL r c ys xs q).length = r * c := upTo_len _ _
theorem outerL_W64 (r c : Nat) (ys xs : List Int) (q : Int) : W64 (outerL r c ys xs q) := upTo_W64 fun _ _ => mulQ_bd _ _ _
theorem errD_len {sz ps : List Int} {q : Int} {x y : List Int} (hx : x.length = szN sz 0) (j : Nat) : (errD sz ps q x y j).length = szN sz (sz.length - 1 - j) := by
  cases j with
  | zero => show (missL _ _).length = _; rw [missL_len, valL_len hx]; rfl
  | succ j => show (gateL _ _).length = _; rw [gateL_len, backL_len, show sz.length - 1 - (j + 1) = sz.length - 2 - j by omega]
theorem errD_W64 (sz ps : List Int) (q : Int) (x y : List Int) (j : Nat) : W64 (errD sz ps q x y j) := by
  cases j with
  | zero => exact missL_W64 _ _
  | succ j => exact gateL_W64 (backL_W64 _ _ _ _ _)
theorem gradT_len {sz ps : List Int} {q : Int} {x y : List Int} (hx : x.length = szN sz 0) (j : Nat) (hj : j ≤ sz.length - 1) : (gradT sz ps q x y j).length + cntN sz (sz.length - 1 - j) = cntN sz (sz.length - 1) := by
  induction j with
  | zero => simp [gradT]
  | succ j ih =>
    have h := ih (by omega)
    have hm := midN_eq sz (sz.length - 2 - j)
    unfold midN at hm
    rw [show sz.length - 2 - j + 1 = sz.length - 1 - j by omega] at hm
    rw [gradT, List.length_append, List.length_append, outerL_len, errD_len hx, show sz.length - 1 - (j + 1) = sz.length - 2 - j by omega]
    omega
end Go.Proofs.Ytfiojofcafjfeaa
