/- The places of a network's parameters, and the gradient place by place, in plain lists. -/
import Derived.Test.YtfiojofcafjfeaaGradPlain
set_option linter.unusedSimpArgs false
set_option linter.unusedVariables false
namespace Go.Proofs.Ytfiojofcafjfeaa
open Go.RowKit

/-- A place: layer, row, column (or -1). -/
abbrev Pl := Nat × Nat × Int
def plW (k c m : Nat) : List Pl := (List.range m).map fun i => (k, i / c, ((i % c : Nat) : Int))
def plB (k m : Nat) : List Pl := (List.range m).map fun i => (k, i, -1)
def plK (sz : List Int) (k : Nat) : List Pl := plW k (szN sz k) (szN sz (k + 1) * szN sz k) ++ plB k (szN sz (k + 1))
def plL (sz : List Int) (n : Nat) : List Pl := (List.range n).flatMap (plK sz)
theorem plW_len (k c m : Nat) : (plW k c m).length = m := by simp [plW]
theorem plB_len (k m : Nat) : (plB k m).length = m := by simp [plB]
theorem plL_succ (sz : List Int) (n : Nat) : plL sz (n + 1) = plL sz n ++ plK sz n := by simp [plL, List.range_succ, List.flatMap_append]
theorem plL_len (sz : List Int) (n : Nat) : (plL sz n).length = cntN sz n := by
  induction n with
  | zero => rfl
  | succ n ih =>
    have := midN_eq sz n
    unfold midN at this
    rw [plL_succ, List.length_append, ih]
    unfold plK
    rw [List.length_append, plW_len, plB_len]
    omega
/-- The cells of places. -/
def plV (l : List Pl) : List Value := l.flatMap fun p => [.int .i64 (p.1 : Int), .int .i64 (p.2.1 : Int), .int .i64 p.2.2]
theorem plV_append (a b : List Pl) : plV (a ++ b) = plV a ++ plV b := by simp [plV, List.flatMap_append]
theorem plV_one (p : Pl) : plV [p] = [.int .i64 (p.1 : Int), .int .i64 (p.2.1 : Int), .int .i64 p.2.2] := rfl
theorem plV_len (l : List Pl) : (plV l).length = l.length * 3 := by
  induction l with
  | nil => rfl
  | cons a l ih => show ([_, _, _] ++ plV l).length = _; rw [List.length_append, ih, List.length_cons]; simp; omega
theorem plV_at : ∀ (l : List Pl) (i : Nat) (p : Pl), l[i]? = some p → (plV l)[i * 3]? = some (.int .i64 (p.1 : Int)) ∧ (plV l)[i * 3 + 1]? = some (.int .i64 (p.2.1 : Int)) ∧ (plV l)[i * 3 + 2]? = some (.int .i64 p.2.2) := by
  intro l
  induction l with
  | nil => intro i p h; simp at h
  | cons a l ih =>
    intro i p h
    have hv : plV (a :: l) = [.int .i64 (a.1 : Int), .int .i64 (a.2.1 : Int), .int .i64 a.2.2] ++ plV l := rfl
    rw [hv]
    cases i with
    | zero =>
      simp at h
      subst h
      exact ⟨rfl, rfl, rfl⟩
    | succ i =>
      have := ih i p (by simpa using h)
      rw [List.getElem?_append_right (by simp; omega), List.getElem?_append_right (by simp; omega), List.getElem?_append_right (by simp; omega)]
      simp only [List.length_cons, List.length_nil]
      rw [show (i + 1) * 3 - (0 + 1 + 1 + 1) = i * 3 by omega, show (i + 1) * 3 + 1 - (0 + 1 + 1 + 1) = i * 3 + 1 by omega, show (i + 1) * 3 + 2 - (0 + 1 + 1 + 1) = i * 3 + 2 by omega]
      exact this
theorem plW_succ (k c r j : Nat) (hj : j < c) : plW k c (r * c + j + 1) = plW k c (r * c + j) ++ [(k, r, (j : Int))] := by
  unfold plW
  rw [List.range_succ, List.map_append]
  have h1 : (r * c + j) / c = r := by rw [Nat.add_comm, Nat.add_mul_div_right _ _ (by omega), Nat.div_eq_of_lt hj, Nat.zero_add]
  have h2 : (r * c + j) % c = j := by rw [Nat.add_comm, Nat.add_mul_mod_self_right, Nat.mod_eq_of_lt hj]
  rw [List.map_singleton, h1, h2]
theorem plB_succ (k r : Nat) : plB k (r + 1) = plB k r ++ [(k, r, -1)] := by simp [plB, List.range_succ]

/-- The gradient at a place. -/
def gAt (sz ps : List Int) (q : Int) (x y : List Int) (p : Pl) : Int :=
  if 0 ≤ p.2.2 then mulQ (nth (errD sz ps q x y (sz.length - 2 - p.1)) p.2.1) (nth (valL sz ps q x p.1) p.2.2.toNat) q else nth (errD sz ps q x y (sz.length - 2 - p.1)) p.2.1
theorem map_nth (l : List Int) (n : Nat) (h : l.length = n) : (List.range n).map (nth l) = l := (eq_upTo h fun k _ => rfl).symm
theorem block_eq {sz ps : List Int} {q : Int} {x y : List Int} (hx : x.length = szN sz 0) {k : Nat} (hk : k + 2 ≤ sz.length) :
    outerL (szN sz (k + 1)) (szN sz k) (errD sz ps q x y (sz.length - 2 - k)) (valL sz ps q x k) q ++ errD sz ps q x y (sz.length - 2 - k) = (plK sz k).map (gAt sz ps q x y) := by
  unfold plK
  rw [List.map_append]
  congr 1
  · unfold outerL upTo plW
    rw [List.map_map]
    refine List.map_congr_left fun i _ => ?_
    unfold outV gAt
    show _ = if 0 ≤ ((i % szN sz k : Nat) : Int) then mulQ (nth (errD sz ps q x y (sz.length - 2 - k)) (i / szN sz k)) (nth (valL sz ps q x k) ((i % szN sz k : Nat) : Int).toNat) q else nth (errD sz ps q x y (sz.length - 2 - k)) (i / szN sz k)
    rw [if_pos (Int.natCast_nonneg _), Int.toNat_natCast]
  · unfold plB
    rw [List.map_map]
    have hl := errD_len (sz := sz) (ps := ps) (q := q) (x := x) (y := y) hx (sz.length - 2 - k)
    rw [show sz.length - 1 - (sz.length - 2 - k) = k + 1 by omega] at hl
    have := map_nth _ _ hl
    conv => lhs; rw [← this]
    refine List.map_congr_left fun i _ => ?_
    unfold gAt
    simp
theorem gradT_eq {sz ps : List Int} {q : Int} {x y : List Int} (hx : x.length = szN sz 0) : ∀ j, j + 1 ≤ sz.length → gradT sz ps q x y j = (((List.range (sz.length - 1)).drop (sz.length - 1 - j)).flatMap (plK sz)).map (gAt sz ps q x y) := by
  intro j
  induction j with
  | zero => intro _; rw [Nat.sub_zero, List.drop_eq_nil_of_le (by simp)]; rfl
  | succ j ih =>
    intro hj
    have hd : (List.range (sz.length - 1)).drop (sz.length - 1 - (j + 1)) = (sz.length - 2 - j) :: (List.range (sz.length - 1)).drop (sz.length - 1 - j) := by
      rw [show sz.length - 1 - (j + 1) = sz.length - 2 - j by omega]
      rw [List.drop_eq_getElem_cons (by simp; omega), List.getElem_range]
      congr 2
      omega
    rw [hd, List.flatMap_cons, List.map_append, ← ih (by omega), gradT, ← List.append_assoc]
    congr 1
    have := block_eq (sz := sz) (ps := ps) (q := q) (x := x) (y := y) hx (k := sz.length - 2 - j) (by omega)
    rw [show sz.length - 2 - j + 1 = sz.length - 1 - j by omega, show sz.length - 2 - (sz.length - 2 - j) = j by omega] at this
    exact this
theorem gradL_eq {sz ps : List Int} {q : Int} {x y : List Int} (hx : x.length = szN sz 0) (hl : 1 ≤ sz.length) : gradL sz ps q x y = (plL sz (sz.length - 1)).map (gAt sz ps q x y) := by
  unfold gradL
  rw [gradT_eq hx _ (by omega), Nat.sub_self, List.drop_zero]
  rfl
theorem gradL_len {sz ps : List Int} {q : Int} {x y : List Int} (hx : x.length = szN sz 0) (hl : 1 ≤ sz.length) : (gradL sz ps q x y).length = cntN sz (sz.length - 1) := by
  rw [gradL_eq hx hl, List.length_map, plL_len]
/-- What a place may be. -/
theorem plL_mem {sz : List Int} {n : Nat} {p : Pl} (h : p ∈ plL sz n) : p.1 < n ∧ p.2.1 < szN sz (p.1 + 1) ∧ (p.2.2 = -1 ∨ (0 ≤ p.2.2 ∧ p.2.2.toNat < szN sz p.1)) := by
  unfold plL at h
  obtain ⟨k, hk, h⟩ := List.mem_flatMap.1 h
  have hk := List.mem_range.1 hk
  unfold plK at h
  rcases List.mem_append.1 h with h | h
  · unfold plW at h
    obtain ⟨i, hi, rfl⟩ := List.mem_map.1 h
    have hi := List.mem_range.1 hi
    have hc : 0 < szN sz k := by
      rcases Nat.eq_zero_or_pos (szN sz k) with h0 | h0
      · rw [h0, Nat.mul_zero] at hi; omega
      · exact h0
    exact ⟨hk, Nat.div_lt_of_lt_mul (by rw [Nat.mul_comm]; exact hi), .inr ⟨by dsimp only; omega, by dsimp only; rw [Int.toNat_natCast]; exact Nat.mod_lt _ hc⟩⟩
  · unfold plB at h
    obtain ⟨i, hi, rfl⟩ := List.mem_map.1 h
    exact ⟨hk, List.mem_range.1 hi, .inl rfl⟩
end Go.Proofs.Ytfiojofcafjfeaa
