/- The reference's sums are the layers' values, in plain lists. -/
import Derived.Test.YtfiojofcafjfeaaRef09
import Derived.Test.YtfiojofcafjfeaaGradPlain
set_option linter.unusedSimpArgs false
set_option linter.unusedVariables false
namespace Go.Proofs.Ytfiojofcafjfeaa
open Go.RowKit

theorem nth_bL {sz ps : List Int} {k r : Nat} (h : r < szN sz (k + 1)) : nth (bL sz ps k) r = nth ps (midN sz k + r) := upTo_nth _ h
theorem nth_wL {sz ps : List Int} {k r c : Nat} (hr : r < szN sz (k + 1)) (hc : c < szN sz k) : nth (wL sz ps k) (r * szN sz k + c) = nth ps (cntN sz k + r * szN sz k + c) := by
  unfold wL
  rw [upTo_nth _ (by have := Nat.mul_le_mul_right (szN sz k) (show r + 1 ≤ szN sz (k + 1) by omega); rw [Nat.succ_mul] at this; omega), Nat.add_assoc]
theorem sumN_eq {sz ps : List Int} {q : Int} {k r : Nat} {v : List Int} (wp : W64 ps) (hr : r < szN sz (k + 1)) : ∀ c, c ≤ szN sz k → sumN sz ps q k r v c = wrap64 (dotN (mrow (wL sz ps k) (szN sz k) r) v q c + nth (bL sz ps k) r) := by
  intro c
  induction c with
  | zero =>
    intro _
    have h := wp.nth (midN sz k + r)
    rw [sumN, dotN, nth_bL hr, Int.zero_add, wrap64_id h.1 h.2]
  | succ c ih =>
    intro hc
    rw [sumN, dotN, ih (by omega), show nth (mrow (wL sz ps k) (szN sz k) r) c = nth (wL sz ps k) (r * szN sz k + c) from upTo_nth _ (by omega), nth_wL hr (by omega), wrap64_add, wrap64_add]
    congr 1
    omega
theorem sumN_zL {sz ps : List Int} {q : Int} {k r : Nat} {v : List Int} (wp : W64 ps) (hr : r < szN sz (k + 1)) (hv : v.length = szN sz k) : sumN sz ps q k r v v.length = nth (zL sz ps q k v) r := by
  rw [hv, sumN_eq wp hr _ (Nat.le_refl _)]
  unfold zL addL
  rw [upTo_nth _ (by rw [mulL_len]; exact hr)]
  unfold mulL
  rw [upTo_nth _ hr]
  unfold dotL
  rw [mrow_len]
/-- The value that the reference lays down. -/
theorem val_step {sz ps : List Int} {q : Int} {x : List Int} {k r : Nat} (wp : W64 ps) (hx : x.length = szN sz 0) (hr : r < szN sz (k + 1)) :
    nth (valL sz ps q x (k + 1)) r = if k + 1 < sz.length - 1 then (if 0 < sumN sz ps q k r (valL sz ps q x k) (valL sz ps q x k).length then sumN sz ps q k r (valL sz ps q x k) (valL sz ps q x k).length else 0) else sumN sz ps q k r (valL sz ps q x k) (valL sz ps q x k).length := by
  rw [sumN_zL wp hr (valL_len hx k)]
  rw [valL]
  split
  · unfold reluL
    rw [upTo_nth _ (by rw [zL_len]; exact hr)]
    split
    · omega
    · omega
  · rfl

/-- The sum of an error, as the reference reckons it. -/
def esumN (sz ps : List Int) (q : Int) (k c : Nat) (e : List Int) : Nat → Int
  | 0 => 0
  | r + 1 => wrap64 (esumN sz ps q k c e r + mulQ (nth ps (cntN sz k + r * szN sz k + c)) (nth e r) q)
theorem esumN_bd (sz ps : List Int) (q : Int) (k c : Nat) (e : List Int) (r : Nat) : -9223372036854775808 ≤ esumN sz ps q k c e r ∧ esumN sz ps q k c e r ≤ 9223372036854775807 := by
  cases r with
  | zero => simp [esumN]
  | succ r => exact wrap64_bd _
theorem foldl_range_succ {α : Type} (f : α → Nat → α) (a : α) (n : Nat) : (List.range (n + 1)).foldl f a = f ((List.range n).foldl f a) n := by rw [List.range_succ, List.foldl_append]; rfl
theorem backN {ms : List Int} {c : Nat} {ys : List Int} {q : Int} (r : Nat) : ((List.range r).foldl (backF ms c ys q) (List.replicate c 0)).length = c := by
  induction r with
  | zero => simp
  | succ r ih => rw [foldl_range_succ, backF_len, ih]
theorem esumN_eq {sz ps : List Int} {q : Int} {k c : Nat} {e : List Int} (hc : c < szN sz k) : ∀ r, r ≤ szN sz (k + 1) → esumN sz ps q k c e r = nth ((List.range r).foldl (backF (wL sz ps k) (szN sz k) e q) (List.replicate (szN sz k) 0)) c := by
  intro r
  induction r with
  | zero =>
    intro _
    rw [esumN, List.range_zero, List.foldl_nil, nth_eq _ _ (by simpa using hc)]
    simp
  | succ r ih =>
    intro hr
    rw [esumN, ih (by omega), foldl_range_succ]
    unfold backF addL
    rw [upTo_nth _ (by have := backN (ms := wL sz ps k) (c := szN sz k) (ys := e) (q := q) r; unfold backF addL at this; omega)]
    congr 2
    unfold scaleL
    rw [upTo_nth _ (by rw [mrow_len]; exact hc), show nth (mrow (wL sz ps k) (szN sz k) r) c = nth (wL sz ps k) (r * szN sz k + c) from upTo_nth _ hc, nth_wL (by omega) hc]
/-- The error that the reference lays down. -/
theorem err_step {sz ps : List Int} {q : Int} {x y : List Int} {j c : Nat} (hx : x.length = szN sz 0) (hj : j + 2 ≤ sz.length) (hc : c < szN sz (sz.length - 2 - j)) :
    nth (errD sz ps q x y (j + 1)) c = if 0 < nth (valL sz ps q x (sz.length - 2 - j)) c then esumN sz ps q (sz.length - 2 - j) c (errD sz ps q x y j) (errD sz ps q x y j).length else 0 := by
  have hl : (errD sz ps q x y j).length = szN sz (sz.length - 2 - j + 1) := by rw [errD_len hx, show sz.length - 1 - j = sz.length - 2 - j + 1 by omega]
  rw [hl, esumN_eq hc _ (Nat.le_refl _)]
  rw [errD]
  unfold gateL
  rw [upTo_nth _ (by rw [backL_len]; exact hc)]
  unfold backL
  rw [show sz.length - 1 - j = sz.length - 2 - j + 1 by omega]
end Go.Proofs.Ytfiojofcafjfeaa
