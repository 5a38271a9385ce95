/- Where the outputs are the wanted ones, the gradient and the loss are zero; and the biases of the last layer: in plain lists. -/
import Derived.Test.YtfiojofcafjfeaaPlacePlain
set_option linter.unusedSimpArgs false
set_option linter.unusedVariables false
namespace Go.Proofs.Ytfiojofcafjfeaa
open Go.RowKit

theorem nth_ge {l : List Int} {k : Nat} (h : l.length ≤ k) : nth l k = 0 := by unfold nth; simp [List.getD, List.getElem?_eq_none h]
/-- A list of zeros. -/
def Zro (l : List Int) : Prop := ∀ k, nth l k = 0
theorem zro_upTo {n : Nat} {f : Nat → Int} (h : ∀ k, k < n → f k = 0) : Zro (upTo n f) := fun k => by
  rcases Nat.lt_or_ge k n with hk | hk
  · rw [upTo_nth f hk]; exact h k hk
  · exact nth_ge (by rw [upTo_len]; exact hk)
theorem wrap64_0 : wrap64 0 = 0 := by first | decide | simp [wrap64] | (unfold wrap64; decide +kernel)
theorem mulQ_zl (b q : Int) : mulQ 0 b q = 0 := by
  unfold mulQ
  rw [Int.zero_mul, Int.zero_ediv, wrap64_0]
  split <;> rfl
theorem mulQ_zr (a q : Int) : mulQ a 0 q = 0 := by
  unfold mulQ
  rw [Int.mul_zero, Int.zero_ediv, wrap64_0]
  split <;> rfl
theorem miss_self (v : List Int) : Zro (missL v v) := zro_upTo fun k _ => by rw [Int.sub_self]; exact wrap64_0
theorem Zro.gate (v : List Int) {d : List Int} (h : Zro d) : Zro (gateL v d) := zro_upTo fun k _ => by
  split
  · exact h k
  · rfl
theorem Zro.add {a b : List Int} (ha : Zro a) (hb : Zro b) : Zro (addL a b) := zro_upTo fun k _ => by rw [ha k, hb k]; exact wrap64_0
theorem zro_scale (xs : List Int) (q : Int) : Zro (scaleL xs 0 q) := zro_upTo fun _ _ => mulQ_zr _ _
theorem Zro.back (ms : List Int) (r c : Nat) {ys : List Int} (q : Int) (h : Zro ys) : Zro (backL ms r c ys q) := by
  unfold backL
  have : ∀ (l : List Nat) (acc : List Int), Zro acc → Zro (l.foldl (backF ms c ys q) acc) := by
    intro l
    induction l with
    | nil => intro acc h; exact h
    | cons a l ih =>
      intro acc h2
      refine ih _ (show Zro (addL acc (scaleL (mrow ms c a) (nth ys a) q)) from h2.add ?_)
      rw [h a]
      exact zro_scale _ _
  refine this _ _ fun k => ?_
  rcases Nat.lt_or_ge k c with hk | hk
  · rw [nth_eq _ _ (by simpa using hk)]; simp
  · exact nth_ge (by simpa using hk)
theorem errD_self (sz ps : List Int) (q : Int) (x : List Int) : ∀ j, Zro (errD sz ps q x (valL sz ps q x (sz.length - 1)) j) := by
  intro j
  induction j with
  | zero => exact miss_self _
  | succ j ih => exact (Zro.back _ _ _ _ ih).gate _
theorem gAt_self (sz ps : List Int) (q : Int) (x : List Int) (p : Pl) : gAt sz ps q x (valL sz ps q x (sz.length - 1)) p = 0 := by
  unfold gAt
  split
  · rw [errD_self]; exact mulQ_zl _ _
  · exact errD_self _ _ _ _ _ _
theorem gradL_self {sz ps : List Int} {q : Int} {x : List Int} (hx : x.length = szN sz 0) (hl : 1 ≤ sz.length) : gradL sz ps q x (valL sz ps q x (sz.length - 1)) = List.replicate (cntN sz (sz.length - 1)) 0 := by
  rw [gradL_eq hx hl]
  refine List.eq_replicate_iff.2 ⟨by rw [List.length_map, plL_len], fun b hb => ?_⟩
  obtain ⟨p, _, rfl⟩ := List.mem_map.1 hb
  exact gAt_self _ _ _ _ _
theorem dot_zro {d : List Int} (h : Zro d) (q : Int) : ∀ k, dotN d d q k = 0 := by
  intro k
  induction k with
  | zero => rfl
  | succ k ih => rw [dotN, ih, h k, mulQ_zl]; exact wrap64_0
theorem loss_self (sz ps : List Int) (q : Int) (x : List Int) : lossN sz ps q x (valL sz ps q x (sz.length - 1)) = 0 := dot_zro (miss_self _) _ _
/-- The gradient ends with the errors of the last layer. -/
theorem gradT_end (sz ps : List Int) (q : Int) (x y : List Int) : ∀ j, ∃ pre, gradT sz ps q x y (j + 1) = pre ++ missL (valL sz ps q x (sz.length - 1)) y := by
  intro j
  induction j with
  | zero => exact ⟨_, by rw [gradT, gradT, List.append_nil]; rfl⟩
  | succ j ih =>
    obtain ⟨pre, h⟩ := ih
    exact ⟨_, by rw [gradT, h, ← List.append_assoc, ← List.append_assoc]⟩
theorem grad_bias {sz ps : List Int} {q : Int} {x y : List Int} (hx : x.length = szN sz 0) (hl : 2 ≤ sz.length) {i : Nat} (hi : i < szN sz (sz.length - 1)) :
    nth (gradL sz ps q x y) (cntN sz (sz.length - 1) - szN sz (sz.length - 1) + i) = wrap64 (nth (valL sz ps q x (sz.length - 1)) i - nth y i) := by
  obtain ⟨pre, h⟩ := gradT_end sz ps q x y (sz.length - 2)
  rw [show sz.length - 2 + 1 = sz.length - 1 by omega] at h
  have hl1 := gradL_len (ps := ps) (q := q) (y := y) hx (by omega)
  have hml : (missL (valL sz ps q x (sz.length - 1)) y).length = szN sz (sz.length - 1) := by rw [missL_len, valL_len hx]
  unfold gradL at hl1 ⊢
  rw [h] at hl1 ⊢
  rw [List.length_append, hml] at hl1
  rw [show cntN sz (sz.length - 1) - szN sz (sz.length - 1) + i = pre.length + i by omega]
  have h1 : nth (pre ++ missL (valL sz ps q x (sz.length - 1)) y) (pre.length + i) = nth (missL (valL sz ps q x (sz.length - 1)) y) i := by
    unfold nth
    rw [List.getD_eq_getElem?_getD, List.getElem?_append_right (by omega), Nat.add_sub_cancel_left, ← List.getD_eq_getElem?_getD]
  rw [h1]
  exact upTo_nth _ (by rw [valL_len hx]; exact hi)
theorem last_le (sz : List Int) (hl : 2 ≤ sz.length) : szN sz (sz.length - 1) ≤ cntN sz (sz.length - 1) := by
  have : cntN sz (sz.length - 2 + 1) = cntN sz (sz.length - 2) + (szN sz (sz.length - 2) + 1) * szN sz (sz.length - 2 + 1) := rfl
  rw [show sz.length - 2 + 1 = sz.length - 1 by omega] at this
  rw [this, Nat.succ_mul]
  omega
end Go.Proofs.Ytfiojofcafjfeaa
