/- The layout of the parameters of a network, in plain numbers. Blocks that are known whole, beside rows of one's own. The walks of sakiaref08. No condition. -/
import Derived.Test.YtfiojofcafjfeaaGreatJ01
import Derived.Test.YtfiojofcafjfeaaGreatProg
import Derived.BigQuiet
import Derived.Deep.QuietTactic
import Derived.Deep.RegionHeld3
import Derived.IntWalk
set_option linter.unusedSimpArgs false
set_option linter.unusedVariables false
namespace Go.Proofs.YtfiojofcafjfeaaGreat
open Go.RowKit

/-- The number of values in layer k. -/
def szN (sz : List Int) (k : Nat) : Nat := (nth sz k).toNat
/-- The number of parameters ahead of the weights behind layer k. -/
def cntN (sz : List Int) : Nat → Nat
  | 0 => 0
  | k + 1 => cntN sz k + (szN sz k + 1) * szN sz (k + 1)
/-- Where the weights behind layer k end. -/
def midN (sz : List Int) (k : Nat) : Nat := cntN sz k + szN sz (k + 1) * szN sz k
/-- Sizes that a shape may have. -/
def RightSz (sz : List Int) : Prop := (2 ≤ sz.length ∧ sz.length ≤ 16) ∧ ∀ k, k < sz.length → 1 ≤ nth sz k ∧ nth sz k ≤ 1048576
/-- Sizes with not too many parameters. -/
def GoodSz (sz : List Int) : Prop := RightSz sz ∧ cntN sz (sz.length - 1) ≤ 1048576

theorem RightSz.at {sz : List Int} (h : RightSz sz) {k : Nat} (hk : k < sz.length) : 1 ≤ szN sz k ∧ szN sz k ≤ 1048576 ∧ nth sz k = (szN sz k : Int) := by
  have := h.2 k hk
  unfold szN; omega
theorem midN_eq (sz : List Int) (k : Nat) : midN sz k + szN sz (k + 1) = cntN sz (k + 1) := by
  unfold midN
  rw [cntN, Nat.add_mul, Nat.one_mul, Nat.mul_comm (szN sz k)]; omega
theorem RightSz.mul {sz : List Int} (h : RightSz sz) {k : Nat} (hk : k + 1 < sz.length) : szN sz (k + 1) * szN sz k ≤ 1099511627776 := by
  have h1 := h.at hk
  have h2 := h.at (k := k) (by omega)
  exact Nat.mul_le_mul h1.2.1 h2.2.1
theorem RightSz.cnt {sz : List Int} (h : RightSz sz) : ∀ k, k < sz.length → cntN sz k ≤ k * 1099512676352 := by
  intro k
  induction k with
  | zero => intro _; simp [cntN]
  | succ k ih =>
    intro hk
    have h1 := ih (by omega)
    have h2 := h.mul hk
    have h3 := (h.at hk).2.1
    have h4 := midN_eq sz k
    unfold midN at h4
    omega
theorem cntN_mono (sz : List Int) {j k : Nat} (h : j ≤ k) : cntN sz j ≤ cntN sz k := by
  induction h with
  | refl => exact Nat.le_refl _
  | step _ ih => rw [cntN]; omega
theorem RightSz.bound {sz : List Int} (h : RightSz sz) {k : Nat} (hk : k < sz.length) : cntN sz k ≤ 17592202821632 := by
  have h1 := h.cnt k hk
  have h2 := h.1.2
  have : k * 1099512676352 ≤ 16 * 1099512676352 := Nat.mul_le_mul_right _ (by omega)
  omega
theorem GoodSz.bound {sz : List Int} (h : GoodSz sz) {k : Nat} (hk : k < sz.length) : cntN sz k ≤ 1048576 := Nat.le_trans (cntN_mono sz (by omega)) h.2
theorem GoodSz.mul {sz : List Int} (h : GoodSz sz) {k : Nat} (hk : k + 1 < sz.length) : szN sz (k + 1) * szN sz k ≤ 1048576 := by
  have h1 := h.bound hk
  have h2 := midN_eq sz k
  unfold midN at h2
  omega

/-- The cells of the first k ranges of weights, of biases. -/
def wVals (sz : List Int) (k : Nat) : List Value := (List.range k).flatMap fun j => [.int .i64 (cntN sz j : Int), .int .i64 (midN sz j : Int)]
def bVals (sz : List Int) (k : Nat) : List Value := (List.range k).flatMap fun j => [.int .i64 (midN sz j : Int), .int .i64 (cntN sz (j + 1) : Int)]
theorem wVals_succ (sz : List Int) (k : Nat) : wVals sz (k + 1) = wVals sz k ++ [.int .i64 (cntN sz k : Int), .int .i64 (midN sz k : Int)] := by simp [wVals, List.range_succ, List.flatMap_append]
theorem bVals_succ (sz : List Int) (k : Nat) : bVals sz (k + 1) = bVals sz k ++ [.int .i64 (midN sz k : Int), .int .i64 (cntN sz (k + 1) : Int)] := by simp [bVals, List.range_succ, List.flatMap_append]
theorem wVals_len (sz : List Int) (k : Nat) : (wVals sz k).length = k * 2 := by
  induction k with
  | zero => rfl
  | succ k ih => rw [wVals_succ, List.length_append, ih]; simp; omega
theorem bVals_len (sz : List Int) (k : Nat) : (bVals sz k).length = k * 2 := by
  induction k with
  | zero => rfl
  | succ k ih => rw [bVals_succ, List.length_append, ih]; simp; omega
theorem wVals_at (sz : List Int) {j n : Nat} (h : j < n) : (wVals sz n)[j * 2]? = some (.int .i64 (cntN sz j : Int)) ∧ (wVals sz n)[j * 2 + 1]? = some (.int .i64 (midN sz j : Int)) := by
  induction n with
  | zero => omega
  | succ n ih =>
    rw [wVals_succ]
    by_cases hj : j < n
    · have := ih hj
      rw [List.getElem?_append_left (by rw [wVals_len]; omega), List.getElem?_append_left (by rw [wVals_len]; omega)]
      exact this
    · obtain rfl : j = n := by omega
      rw [List.getElem?_append_right (by rw [wVals_len]; omega), List.getElem?_append_right (by rw [wVals_len]; omega), wVals_len]
      simp
theorem bVals_at (sz : List Int) {j n : Nat} (h : j < n) : (bVals sz n)[j * 2]? = some (.int .i64 (midN sz j : Int)) ∧ (bVals sz n)[j * 2 + 1]? = some (.int .i64 (cntN sz (j + 1) : Int)) := by
  induction n with
  | zero => omega
  | succ n ih =>
    rw [bVals_succ]
    by_cases hj : j < n
    · have := ih hj
      rw [List.getElem?_append_left (by rw [bVals_len]; omega), List.getElem?_append_left (by rw [bVals_len]; omega)]
      exact this
    · obtain rfl : j = n := by omega
      rw [List.getElem?_append_right (by rw [bVals_len]; omega), List.getElem?_append_right (by rw [bVals_len]; omega), bVals_len]
      simp

/-- A shape in memory: its sizes, its ranges, its number. -/
def ShapeAt (T : TypeId) (w : World) (b : Nat) (sz : List Int) : Prop := ∃ A1 c1 A2 c2 A3 c3,
  w.heap[b]? = some (.cells #[.slice A1 sz.length c1, .slice A2 (sz.length - 1) c2, .slice A3 (sz.length - 1) c3, .int .i64 (cntN sz (sz.length - 1) : Int)] T (0, 0)) ∧
  Rd w A1 (nums .i64 sz) ∧ Rd w A2 (wVals sz (sz.length - 1)) ∧ Rd w A3 (bVals sz (sz.length - 1))
theorem ShapeAt.below {T : TypeId} {w w' : World} {b : Nat} {sz : List Int} (h : ShapeAt T w b sz) (hb : Below w.heap.size w w') : ShapeAt T w' b sz := by
  obtain ⟨A1, c1, A2, c2, A3, c3, h0, h1, h2, h3⟩ := h
  exact ⟨A1, c1, A2, c2, A3, c3, (hb.block b (lt_of_block h0)).trans h0, h1.below hb, h2.below hb, h3.below hb⟩
theorem ShapeAt.lt {T : TypeId} {w : World} {b : Nat} {sz : List Int} (h : ShapeAt T w b sz) : b < w.heap.size := by
  obtain ⟨A1, c1, A2, c2, A3, c3, h0, _⟩ := h
  exact lt_of_block h0
end Go.Proofs.YtfiojofcafjfeaaGreat
namespace Go.Proofs.YtfiojofcafjfeaaGreat
open Go.RowKit

/-- A row of one's own is no block of another type. -/
theorem block_notrow {W : World} {b : Nat} {cs : Array Value} {t e : TypeId} {sg : Nat × Nat} (h : W.heap[b]? = some (.cells cs t sg)) (hte : t ≠ e) {base size k : Nat} {v : Value} {xs : List Value} (hr : W.ownsRow base e size v k xs) : some b ≠ v.ownBlock := by
  rcases hr.2 with ⟨rfl, _⟩ | ⟨g, cap, cur, rfl, _, hgb, _⟩
  · simp [Value.ownBlock]
  · intro e'
    obtain rfl : b = g := by simpa [Value.ownBlock] using e'
    have := h.symm.trans hgb
    simp at this
    exact hte this.2.1
/-- A block that a row does not lie in stays where only that row grows. -/
theorem block_grown {W W' : World} {b : Nat} {cs : Array Value} {t e : TypeId} {sg : Nat × Nat} {o : Obj} (h : W.heap[b]? = some (.cells cs t sg)) (hte : t ≠ e) {base size k : Nat} {v : Value} {xs : List Value} (hr : W.ownsRow base e size v k xs) (hg : (W.alloc o).grownBy W' v.ownBlock) : W'.heap[b]? = some (.cells cs t sg) :=
  (hg.block b (by have := lt_of_block h; simp; omega) (block_notrow h hte hr)).trans ((Below.heap_alloc W o b (lt_of_block h)).trans h)
theorem cell_grown {W W' : World} {b o : Nat} {u : Value} {e : TypeId} {ob : Obj} (h : W.cell? ⟨b, o, none⟩ = some u) {base size k : Nat} {v : Value} {xs : List Value} (hb : b < base) (hr : W.ownsRow base e size v k xs) (hg : (W.alloc ob).grownBy W' v.ownBlock) : W'.cell? ⟨b, o, none⟩ = some u :=
  hg.cell ((World.cell?_of_block (w := W) (Below.heap_alloc W ob b (lt_of_cell h))).trans h) (fun e => by
    have e' : v.ownBlock = some b := e.symm
    have := (hr.lt b e').1
    omega)
/-- Another row of one's own stays where a row grows, and stays another. -/
theorem own_other {W W' : World} {base' : Nat} {e' : TypeId} {size' m : Nat} {v v' u : Value} {ys : List Value} {o : Obj} (hu : W.ownsRow base' e' size' u m ys) (hne : ∀ i, v.ownBlock = some i → u.ownBlock ≠ some i)
    (hg : (W.alloc o).grownBy W' v.ownBlock) (hv : v'.ownBlock = v.ownBlock ∨ v'.ownBlock = some (W.alloc o).heap.size) : W'.ownsRow base' e' size' u m ys ∧ ∀ i, v'.ownBlock = some i → u.ownBlock ≠ some i := by
  refine ⟨(hu.alloc o).kept hg ?_, fun i hi => ?_⟩
  · cases hub : u.ownBlock with
    | none => exact .inl rfl
    | some k => exact .inr fun e => hne k e.symm hub
  · rcases hv with hv | hv
    · exact hne i (hv ▸ hi)
    · intro e
      have h1 := (hu.lt i e).2
      rw [hi] at hv
      simp at hv
      omega
theorem cell_alloc {W : World} {p : Addr} {u : Value} (h : W.cell? p = some u) (o : Obj) : (W.alloc o).cell? p = some u :=
  (World.cell?_of_block (w := W) (Below.heap_alloc W o _ (lt_of_cell h))).trans h
theorem cell_below {w w' : World} {p : Addr} {u : Value} (hb : Below w.heap.size w w') (h : w.cell? p = some u) : w'.cell? p = some u := (World.cell?_of_block (w := w) (hb.block _ (lt_of_cell h))).trans h
/-- Rows of two types lie in two blocks. -/
theorem own_types {W : World} {b1 b2 e1 e2 s1 s2 n1 n2 : Nat} {v1 v2 : Value} {xs1 xs2 : List Value} (h1 : W.ownsRow b1 e1 s1 v1 n1 xs1) (h2 : W.ownsRow b2 e2 s2 v2 n2 xs2) (hne : e1 ≠ e2) : ∀ i, v1.ownBlock = some i → v2.ownBlock ≠ some i := by
  intro i hi e
  rcases h1.2 with ⟨rfl, _⟩ | ⟨g, cap, cur, rfl, _, hgb, _⟩
  · cases hi
  · obtain rfl : g = i := by simpa [Value.ownBlock] using hi
    exact block_notrow hgb hne h2 e.symm
/-- A row of one's own behind an append to a row of another type and a store into a block of a third. -/
theorem own_past {W W' : World} {e' e size' size n m : Nat} {v u y : Value} {xs ys : List Value} {o : Obj} {base base' B j : Nat} {cs : Array Value} {t : TypeId} (hu : W.ownsRow base' e' size' u m ys) (hv : W.ownsRow base e size v n xs) (hg : (W.alloc o).grownBy W' v.ownBlock)
    (hB : W'.heap[B]? = some (.cells cs t (0, 0))) (h1 : e ≠ e') (h2 : t ≠ e') : (W'.setCell ⟨B, j, none⟩ y).ownsRow base' e' size' u m ys := by
  have h3 : W'.ownsRow base' e' size' u m ys := by
    refine (hu.alloc o).kept hg ?_
    cases hub : u.ownBlock with
    | none => exact .inl rfl
    | some k => exact .inr fun e9 => own_types hv hu h1 k e9.symm hub
  exact (Keep.setCell (S := fun i => i = B) (Keep.refl _ W') ⟨B, j, none⟩ (.inr rfl) y).own h3 (fun i hi e9 => block_notrow hB h2 h3 (by rw [hi, e9]))
theorem grown_undrew {W W' : World} {r : Option Nat} (h : W.drew.grownBy W' r) : W.grownBy W' r := ⟨h.os, h.tape, h.output, h.size, h.block⟩
/-- Two boxes filled, one after the other. -/
theorem two_boxes {wr W : World} {M1 M2 : Nat} {t1 t2 : TypeId} {x0 x1 y0 y1 : Value} (a0 a1 c0 c1 : Value) (h1 : W.heap[M1]? = some (.cells #[x0, x1] t1 (0, 0))) (h2 : W.heap[M2]? = some (.cells #[y0, y1] t2 (0, 0))) (hne : M1 ≠ M2) (hb : Below wr.heap.size wr W) (g1 : wr.heap.size ≤ M1) (g2 : wr.heap.size ≤ M2) :
    ((((W.setCell ⟨M1, 0, none⟩ a0).setCell ⟨M1, 1, none⟩ a1).setCell ⟨M2, 0, none⟩ c0).setCell ⟨M2, 1, none⟩ c1).heap[M1]? = some (.cells #[a0, a1] t1 (0, 0)) ∧
    ((((W.setCell ⟨M1, 0, none⟩ a0).setCell ⟨M1, 1, none⟩ a1).setCell ⟨M2, 0, none⟩ c0).setCell ⟨M2, 1, none⟩ c1).heap[M2]? = some (.cells #[c0, c1] t2 (0, 0)) ∧
    Below wr.heap.size wr ((((W.setCell ⟨M1, 0, none⟩ a0).setCell ⟨M1, 1, none⟩ a1).setCell ⟨M2, 0, none⟩ c0).setCell ⟨M2, 1, none⟩ c1) := by
  have e1 := heap_setCell_same W M1 0 _ _ a0 h1
  have e2 := heap_setCell_same _ M1 1 _ _ a1 e1
  have f2 := (Below.heap_setCell (W.setCell ⟨M1, 0, none⟩ a0) ⟨M1, 1, none⟩ a1 M2 (fun e => hne e.symm)).trans ((Below.heap_setCell W ⟨M1, 0, none⟩ a0 M2 (fun e => hne e.symm)).trans h2)
  have f3 := heap_setCell_same _ M2 0 _ _ c0 f2
  have f4 := heap_setCell_same _ M2 1 _ _ c1 f3
  refine ⟨?_, f4, (((hb.setCell (p := ⟨M1, 0, none⟩) g1 a0).setCell (p := ⟨M1, 1, none⟩) g1 a1).setCell (p := ⟨M2, 0, none⟩) g2 c0).setCell (p := ⟨M2, 1, none⟩) g2 c1⟩
  exact (Below.heap_setCell _ ⟨M2, 1, none⟩ c1 M1 hne).trans ((Below.heap_setCell _ ⟨M2, 0, none⟩ c0 M1 hne).trans e2)
end Go.Proofs.YtfiojofcafjfeaaGreat
namespace Go.Proofs.YtfiojofcafjfeaaGreat
open Go.RowKit

theorem rrng_hi (a b : Int) (w : World) : Sem.run Tryz.prog (Instr.field 222 (.agg #[.int .i64 a, .int .i64 b]) 1) w = .ok (.int .i64 b) w := by kernel_rfl
theorem rrng_lo (a b : Int) (w : World) : Sem.run Tryz.prog (Instr.field 222 (.agg #[.int .i64 a, .int .i64 b]) 0) w = .ok (.int .i64 a) w := by kernel_rfl

theorem rcount_any (A : Option Addr) (sz : List Int) (m c : Nat) (w : World) (hA : Rd w A (nums .i64 sz)) (hR : RightSz sz) (h1 : 1 ≤ m) (hm : m ≤ sz.length) :
    Calls Tryz.prog 33 #[.slice A m c] w fun e w' => e = .returned (.int .i64 (cntN sz (m - 1) : Int)) ∧ ∃ n, w' = w.drewN n := by
  have hmb : m ≤ 16 := by have := hR.1.2; omega
  have HA := Lib.hid hA; have HR := Lib.hid hR; have Hm := Lib.hid hm; clear hA hR hm
  go_enter Tryz.func33, Tryz.ntmps33
  go_wp2_with fail
  go_loopw [3, 4] (fun v i wr => ∃ k : Nat, k + 1 ≤ m ∧ i = .int .i64 k ∧ v = .int .i64 (cntN sz k : Int) ∧ ∃ n, wr = w.drewN n) (fun _ i _ => m - (intOf i).toNat)
  case atStart => exact ⟨0, h1, rfl, rfl, 0, rfl⟩
  case round =>
    obtain ⟨k, hk, rfl, rfl, n, rfl⟩ := hrel
    by_cases hlt : k + 1 < m
    · have hm := Hm.out
      have z0 := HR.out.at (k := k) (by omega)
      have z1 := HR.out.at (k := k + 1) (by omega)
      obtain ⟨b, o, rfl, p0⟩ := HA.out.num (show k < sz.length by omega)
      obtain ⟨_, _, e', p1⟩ := HA.out.num (show k + 1 < sz.length by omega)
      injection e' with e'; injection e' with e1 e2 _; subst e1; subst e2
      have hb := HR.out.bound (k := k + 1) (by omega)
      rw [z0.2.2] at p0
      rw [z1.2.2] at p1
      have hc : cntN sz (k + 1) = cntN sz k + (szN sz k + 1) * szN sz (k + 1) := rfl
      obtain ⟨a, ha⟩ : ∃ a, szN sz k = a := ⟨_, rfl⟩
      obtain ⟨d, hd⟩ : ∃ d, szN sz (k + 1) = d := ⟨_, rfl⟩
      obtain ⟨N, hN⟩ : ∃ N, cntN sz k = N := ⟨_, rfl⟩
      obtain ⟨M, hM⟩ : ∃ M, cntN sz (k + 1) = M := ⟨_, rfl⟩
      obtain ⟨p, hp⟩ : ∃ p, (a + 1) * d = p := ⟨_, rfl⟩
      rw [ha] at p0 z0 hc
      rw [hd] at p1 z1 hc
      rw [hN, hM, hp] at hc
      rw [hM] at hb
      rw [hN]
      have HM := Lib.hid hM
      clear hM hN ha hd
      have hi1 : (k : Int) + 1 < m := by omega
      have hi0 : (k : Int) < m := by omega
      have hi2 : (0 : Int) ≤ (k : Int) + 1 := by omega
      have hi3 : ((k : Int) + 1).toNat = k + 1 := by omega
      have hw0 : IntKind.i64.wrap ((k : Int) + 1) = (k : Int) + 1 := IntWalk.i64_in _ (by omega)
      have hw1 : IntKind.i64.wrap ((a : Int) + 1) = (a : Int) + 1 := IntWalk.i64_in _ (by omega)
      have hpp : ((a : Int) + 1) * (d : Int) = (p : Int) := by rw [← hp]; push_cast; rfl
      have hw2 : IntKind.i64.wrap (((a : Int) + 1) * (d : Int)) = (p : Int) := by rw [hpp]; exact IntWalk.i64_in _ (by omega)
      have hw3 : IntKind.i64.wrap ((N : Int) + (p : Int)) = (M : Int) := by rw [IntWalk.i64_in _ (by omega)]; omega
      clear hpp hp hc hb z0 z1
      go_wp2_with fail
      go_quiet (fail)
      clear hw0 hw1 hw2 hw3 hi0 hi1 hi2 hi3
      go_wp2_with fail
      go_roundw
      case rel => exact ⟨k + 1, by omega, by go_num, by rw [HM.out], _, by first | rfl | exact World.drewN_drewN _ _ _⟩
      case measure => simp [intOf]; omega
    · obtain rfl : k = m - 1 := by omega
      have hwk : IntKind.i64.wrap (((m - 1 : Nat) : Int) + 1) = (m : Int) := by rw [IntWalk.i64_in _ (by omega)]; omega
      go_wp2_with fail
      go_ret
      exact ⟨rfl, n, rfl⟩

theorem rcheck_short (A : Option Addr) (sz : List Int) (c : Nat) (w : World) (hl : sz.length ≤ 17592186043904) (h : ¬ (2 ≤ sz.length ∧ sz.length ≤ 16)) :
    Calls Tryz.prog 67 #[.slice A sz.length c] w fun e w' => e = .returned (.int .i64 5) ∧ w = w' := by
  by_cases h1 : sz.length < 2
  · go_enter Tryz.func67, Tryz.ntmps67
    go_wp2
    go_ret
    exact ⟨rfl, rfl⟩
  · have h2 : 16 < sz.length := by omega
    go_enter Tryz.func67, Tryz.ntmps67
    go_wp2
    go_ret
    exact ⟨rfl, rfl⟩

/-- The code of right sizes. -/
def codeN (sz : List Int) : Int := if 1048576 < cntN sz (sz.length - 1) then 4 else 0
theorem rcheck_long (A : Option Addr) (sz : List Int) (c : Nat) (w : World) (hA : Rd w A (nums .i64 sz)) (h : 2 ≤ sz.length ∧ sz.length ≤ 16) :
    Calls Tryz.prog 67 #[.slice A sz.length c] w fun e w' => ((RightSz sz ∧ e = .returned (.int .i64 (codeN sz))) ∨ (¬ RightSz sz ∧ e = .returned (.int .i64 5))) ∧ ∃ n, w' = w.drewN n := by
  obtain ⟨h1, h2⟩ := h
  obtain ⟨n, hn⟩ : ∃ n, sz.length = n := ⟨_, rfl⟩
  have hct := fun (hR : RightSz sz) => rcount_any A sz n c w hA hR (by omega) (by omega)
  have hR : (∀ k, k < n → 1 ≤ nth sz k ∧ nth sz k ≤ 1048576) → RightSz sz := fun h => ⟨by omega, by rw [hn]; exact h⟩
  have hRn : RightSz sz → ∀ k, k < n → 1 ≤ nth sz k ∧ nth sz k ≤ 1048576 := fun h => by rw [← hn]; exact h.2
  have hcd : codeN sz = if 1048576 < cntN sz (n - 1) then 4 else 0 := by unfold codeN; rw [hn]
  rw [hn] at h1 h2 ⊢
  have HA := Lib.hid hA; have Hct := Lib.hid hct; have HR := Lib.hid hR; have HRn := Lib.hid hRn; have Hn := Lib.hid hn; have Hcd := Lib.hid hcd; clear hA hct hR hRn hn hcd
  go_enter Tryz.func67, Tryz.ntmps67
  go_wp2_with fail
  go_loop [3] (fun i => ∃ k : Nat, k ≤ n ∧ i = .int .i64 k ∧ Hid (∀ j, j < k → 1 ≤ nth sz j ∧ nth sz j ≤ 1048576)) (fun i => n - (intOf i).toNat)
  case atStart => exact ⟨0, Nat.zero_le _, rfl, Lib.hid fun j hj => by omega⟩
  case round =>
    obtain ⟨k, hk, rfl, Hall⟩ := hrel
    by_cases hlt : k < n
    · obtain ⟨b, o, rfl, p⟩ := HA.out.num (show k < sz.length by rw [Hn.out]; exact hlt)
      by_cases hz1 : nth sz k < 1
      · have hno : ¬ RightSz sz := fun h => by have := HRn.out h k hlt; omega
        have Hno := Lib.hid hno; clear hno
        go_wp2_with fail
        go_ret
        exact ⟨.inr ⟨Hno.out, rfl⟩, 0, rfl⟩
      · by_cases hz2 : 1048576 < nth sz k
        · have hno : ¬ RightSz sz := fun h => by have := HRn.out h k hlt; omega
          have Hno := Lib.hid hno; clear hno
          go_wp2_with fail
          go_ret
          exact ⟨.inr ⟨Hno.out, rfl⟩, 0, rfl⟩
        · have Hz := Lib.hid (show 1 ≤ nth sz k ∧ nth sz k ≤ 1048576 by omega)
          go_wp2_with fail
          go_round
          case rel => exact ⟨k + 1, by omega, by go_num, Lib.hid (p := ∀ j, j < k + 1 → 1 ≤ nth sz j ∧ nth sz j ≤ 1048576) fun j hj => by
            rcases Nat.lt_or_ge j k with h | h
            · exact Hall.out j h
            · obtain rfl : j = k := by omega
              exact Hz.out⟩
          case measure => simp [intOf]; omega
    · obtain rfl : k = n := by omega
      have hR := HR.out Hall.out
      have hb := hR.bound (k := k - 1) (by rw [Hn.out]; omega)
      have HRR := Lib.hid hR; clear hR
      by_cases hbig : 1048576 < cntN sz (k - 1)
      · have hbi : (1048576 : Int) < cntN sz (k - 1) := by omega
        have hcv : codeN sz = 4 := by rw [Hcd.out, if_pos hbig]
        have Hcv := Lib.hid hcv; clear hcv
        go_wp2_with fail
        refine (Hct.out HRR.out).mono ?_
        rintro e w' ⟨rfl, m, rfl⟩
        go_wp2_with fail
        go_ret
        exact ⟨.inl ⟨HRR.out, by rw [Hcv.out]; rfl⟩, m, rfl⟩
      · have hbi : ¬ (1048576 : Int) < cntN sz (k - 1) := by omega
        have hcv : codeN sz = 0 := by rw [Hcd.out, if_neg hbig]
        have Hcv := Lib.hid hcv; clear hcv
        go_wp2_with fail
        refine (Hct.out HRR.out).mono ?_
        rintro e w' ⟨rfl, m, rfl⟩
        go_wp2_with fail
        go_ret
        exact ⟨.inl ⟨HRR.out, by rw [Hcv.out]; rfl⟩, m, rfl⟩

/-- The code, whatever the sizes are. -/
theorem rcheck_any (A : Option Addr) (sz : List Int) (c : Nat) (w : World) (hA : Rd w A (nums .i64 sz)) (hl : sz.length ≤ 17592186043904) :
    Calls Tryz.prog 67 #[.slice A sz.length c] w fun e w' => (∃ v : Int, e = .returned (.int .i64 v) ∧ (v = 0 ↔ GoodSz sz) ∧ (v = 0 ∨ v = 4 ∨ v = 5)) ∧ ∃ n, w' = w.drewN n := by
  by_cases h : 2 ≤ sz.length ∧ sz.length ≤ 16
  · refine (rcheck_long A sz c w hA h).mono fun e w' ⟨h1, h2⟩ => ⟨?_, h2⟩
    rcases h1 with ⟨hR, rfl⟩ | ⟨hR, rfl⟩
    · refine ⟨_, rfl, ?_⟩
      unfold codeN GoodSz
      split
      · exact ⟨⟨fun h => by omega, fun h => by omega⟩, by omega⟩
      · exact ⟨⟨fun _ => ⟨hR, by omega⟩, fun _ => rfl⟩, by omega⟩
    · exact ⟨_, rfl, ⟨fun h => by omega, fun h => absurd h.1 hR⟩, by omega⟩
  · refine (rcheck_short A sz c w hl h).mono fun e w' ⟨h1, h2⟩ => ⟨⟨5, h1, ⟨fun h => by omega, fun hg => absurd hg.1.1 h⟩, by omega⟩, 0, h2.symm⟩

set_option maxHeartbeats 400000 in
theorem rweights_any (A : Option Addr) (sz : List Int) (k c : Nat) (w : World) (hA : Rd w A (nums .i64 sz)) (hR : RightSz sz) (hk : k + 1 < sz.length) (hc : sz.length ≤ c) :
    Calls Tryz.prog 140 #[.slice A sz.length c, .int .i64 k] w fun e w' => e = .returned (.agg #[.int .i64 (cntN sz k : Int), .int .i64 (midN sz k : Int)]) ∧ Below w.heap.size w w' := by
  have hl16 := hR.1.2
  have z0 := hR.at (k := k) (by omega)
  have z1 := hR.at hk
  obtain ⟨b, o, rfl, p0⟩ := hA.num (show k < sz.length by omega)
  obtain ⟨_, _, e', p1⟩ := hA.num hk
  injection e' with e'; injection e' with e1 e2 _; subst e1; subst e2
  have hct := fun w' (h : Below w.heap.size w w') => rcount_any (some ⟨b, o, none⟩) sz (k + 1) c w' (hA.below h) hR (by omega) (by omega)
  have hb := hR.bound (k := k + 1) hk
  have hm : midN sz k = cntN sz k + szN sz (k + 1) * szN sz k := rfl
  have hm2 := midN_eq sz k
  simp only [Nat.add_sub_cancel] at hct
  rw [z0.2.2] at p0
  rw [z1.2.2] at p1
  obtain ⟨a, ha⟩ : ∃ a, szN sz k = a := ⟨_, rfl⟩
  obtain ⟨d, hd⟩ : ∃ d, szN sz (k + 1) = d := ⟨_, rfl⟩
  obtain ⟨N, hN⟩ : ∃ N, cntN sz k = N := ⟨_, rfl⟩
  obtain ⟨M, hM⟩ : ∃ M, midN sz k = M := ⟨_, rfl⟩
  obtain ⟨p, hp⟩ : ∃ p, d * a = p := ⟨_, rfl⟩
  obtain ⟨n, hn⟩ : ∃ n, sz.length = n := ⟨_, rfl⟩
  rw [ha] at p0 z0 hm
  rw [hd] at p1 z1 hm hm2
  rw [hN, hM, hp] at hm
  rw [hM] at hm2
  rw [hN] at hct ⊢
  rw [hM]
  rw [hn] at hk hc hl16 ⊢
  have hbl : b < w.heap.size := lt_of_cell p0
  have Hct := Lib.hid hct
  clear hct hA hR
  have hi1 : (k : Int) + 1 < n := by omega
  have hi0 : (k : Int) < n := by omega
  have hi2 : (0 : Int) ≤ (k : Int) + 1 := by omega
  have hi3 : ((k : Int) + 1).toNat = k + 1 := by omega
  have hi4 : ((n - 1 : Nat) : Int) = (n : Int) - 1 := by omega
  have hi5 : ¬ ((n : Int) - 1 ≤ k) := by omega
  have hi6 : k + 1 ≤ c := by omega
  have hpp : (a : Int) * (d : Int) = (p : Int) := by rw [← hp, Nat.mul_comm]; push_cast; rfl
  have hw2 : IntKind.i64.wrap ((a : Int) * (d : Int)) = (p : Int) := by rw [hpp]; exact IntWalk.i64_in _ (by omega)
  have hw3 : IntKind.i64.wrap ((N : Int) + (p : Int)) = (M : Int) := by rw [IntWalk.i64_in _ (by omega)]; omega
  have Hw2 := Lib.hid hw2; have Hw3 := Lib.hid hw3
  clear hpp hp hb z0 z1 hm hm2 hM hN ha hd hn hw2 hw3
  go_enter Tryz.func140, Tryz.ntmps140
  go_wp2_with fail
  refine (Hct.out _ ?_).mono ?_
  · (focus (repeat' (first | (with_reducible exact Below.refl _ _) | (with_reducible assumption) | (with_reducible refine Below.setCell ?_ ?_ _) | (with_reducible refine Below.alloc ?_ ?_ _) | (with_reducible refine below_drewN ?_ _) | (with_reducible refine Below.drew ?_) | (with_reducible exact Nat.le_refl _) | omega | (simp; done) | (simp; omega))))
  rintro e w' ⟨rfl, m, rfl⟩
  have hw2 := Hw2.out
  have hw3 := Hw3.out
  go_wp2_with fail
  go_region
  all_goals clear hw2 hw3
  all_goals go_wp2_with fail
  all_goals
    refine bodyPost_ret (v := .agg #[.int .i64 N, .int .i64 M]) (by simp [results, Tryz.results140, go_sem]) rfl ⟨rfl, ?_⟩
    (focus (repeat' (first | (with_reducible exact Below.refl _ _) | (with_reducible assumption) | (with_reducible refine Below.setCell ?_ ?_ _) | (with_reducible refine Below.alloc ?_ ?_ _) | (with_reducible refine below_drewN ?_ _) | (with_reducible refine Below.drew ?_) | (with_reducible exact Nat.le_refl _) | omega | (simp; done) | (simp; omega))))

set_option maxHeartbeats 400000 in
theorem rbiases_any (A : Option Addr) (sz : List Int) (k c : Nat) (w : World) (hA : Rd w A (nums .i64 sz)) (hR : RightSz sz) (hk : k + 1 < sz.length) (hc : sz.length ≤ c) :
    Calls Tryz.prog 150 #[.slice A sz.length c, .int .i64 k] w fun e w' => e = .returned (.agg #[.int .i64 (midN sz k : Int), .int .i64 (cntN sz (k + 1) : Int)]) ∧ Below w.heap.size w w' := by
  have hl16 := hR.1.2
  have hwt := fun w' (h : Below w.heap.size w w') => rweights_any A sz k c w' (hA.below h) hR hk hc
  have hct := fun w' (h : Below w.heap.size w w') => rcount_any A sz (k + 2) c w' (hA.below h) hR (by omega) (by omega)
  simp only [show k + 2 - 1 = k + 1 by omega] at hct
  obtain ⟨b, o, rfl, p0⟩ := hA.num (show k < sz.length by omega)
  obtain ⟨n, hn⟩ : ∃ n, sz.length = n := ⟨_, rfl⟩
  obtain ⟨N, hN⟩ : ∃ N, cntN sz (k + 1) = N := ⟨_, rfl⟩
  obtain ⟨M, hM⟩ : ∃ M, midN sz k = M := ⟨_, rfl⟩
  rw [hN] at hct ⊢
  have hNN : cntN sz k = cntN sz k := rfl
  clear hNN
  rw [hM] at hwt ⊢
  rw [hn] at hwt hk hc hl16 ⊢
  have Hwt := Lib.hid hwt; have Hct := Lib.hid hct
  clear hwt hct hA hR p0 hn hN hM
  have hi5 : ¬ ((n : Int) - 1 ≤ k) := by omega
  have hi7 : (k : Int) + 2 ≤ c := by omega
  have hi2 : (0 : Int) ≤ (k : Int) + 2 := by omega
  have hi3 : ((k : Int) + 2).toNat = k + 2 := by omega
  have hw0 : IntKind.i64.wrap ((k : Int) + 2) = (k : Int) + 2 := IntWalk.i64_in _ (by omega)
  have hfd := rrng_hi
  go_enter Tryz.func150, Tryz.ntmps150
  go_wp2_with fail
  have hSw : (fun _ : World => True) (w.alloc (.cells #[.int .i64 0, .int .i64 0] 222)).drew := trivial
  refine wp_region_held (S := fun _ : World => True) (by kernel_rfl) ?_
  change wpAnyH _ _ _ _ _ _ _ _ (w.alloc (.cells #[.int .i64 0, .int .i64 0] 222)).drew
  refine wpAnyH_take (i := 0) (v := ?_) rfl (by kernel_rfl) (by kernel_rfl) (by kernel_rfl) (fun _ _ _ h => h) (Or.inl ⟨by rfl, ?_⟩) hSw ?_
  rotate_left
  · intro w9 hS9; (try dsimp only at hS9); have s1 := hS9; go_simp; (try with_reducible rfl)
  simp only [List.getElem_toArray, List.getElem_cons_succ, List.getElem_cons_zero, Act.put, List.setIfInBounds_toArray, List.set_cons_zero, List.set_cons_succ]
  refine wpAnyH_take (i := 1) (v := ?_) rfl (by kernel_rfl) (by kernel_rfl) (by kernel_rfl) (fun _ _ _ h => h) (Or.inl ⟨by rfl, ?_⟩) hSw ?_
  rotate_left
  · intro w9 hS9; (try dsimp only at hS9); have s1 := hS9; go_simp; (try with_reducible rfl)
  simp only [List.getElem_toArray, List.getElem_cons_succ, List.getElem_cons_zero, Act.put, List.setIfInBounds_toArray, List.set_cons_zero, List.set_cons_succ]
  refine wpAnyH_take (i := 4) (v := ?_) rfl (by kernel_rfl) (by kernel_rfl) (by kernel_rfl) (fun _ _ _ h => h) (Or.inl ⟨by rfl, ?_⟩) hSw ?_
  rotate_left
  · intro w9 hS9; (try dsimp only at hS9); have s1 := hS9; go_simp; (try with_reducible rfl)
  simp only [List.getElem_toArray, List.getElem_cons_succ, List.getElem_cons_zero, Act.put, List.setIfInBounds_toArray, List.set_cons_zero, List.set_cons_succ]
  refine wpAnyH_take (i := 5) (v := ?_) rfl (by kernel_rfl) (by kernel_rfl) (by kernel_rfl) (fun _ _ _ h => h) (Or.inl ⟨by rfl, ?_⟩) hSw ?_
  rotate_left
  · intro w9 hS9; (try dsimp only at hS9); have s1 := hS9; go_simp; (try with_reducible rfl)
  simp only [List.getElem_toArray, List.getElem_cons_succ, List.getElem_cons_zero, Act.put, List.setIfInBounds_toArray, List.set_cons_zero, List.set_cons_succ]
  refine wpAnyH_take (i := 6) (v := ?_) rfl (by kernel_rfl) (by kernel_rfl) (by kernel_rfl) (fun _ _ _ h => h) (Or.inl ⟨by rfl, ?_⟩) hSw ?_
  rotate_left
  · intro w9 hS9; (try dsimp only at hS9); have s1 := hS9; go_simp; (try with_reducible rfl)
  simp only [List.getElem_toArray, List.getElem_cons_succ, List.getElem_cons_zero, Act.put, List.setIfInBounds_toArray, List.set_cons_zero, List.set_cons_succ]
  refine wpAnyH_take (i := 7) (v := ?_) rfl (by kernel_rfl) (by kernel_rfl) (by kernel_rfl) (fun _ _ _ h => h) (Or.inl ⟨by rfl, ?_⟩) hSw ?_
  rotate_left
  · intro w9 hS9; (try dsimp only at hS9); have s1 := hS9; go_simp; (try with_reducible rfl)
  simp only [List.getElem_toArray, List.getElem_cons_succ, List.getElem_cons_zero, Act.put, List.setIfInBounds_toArray, List.set_cons_zero, List.set_cons_succ]
  refine wpAnyH_ready (rs := [2]) (by kernel_rfl) (by simp) ?_
  refine AllReadyH.cons rfl (fun K hK => ?_) AllReadyH.nil
  simp only [List.getElem_toArray, List.getElem_cons_succ, List.getElem_cons_zero]
  go_simp
  refine (Hwt.out _ ?_).mono ?_
  · (focus (repeat' (first | (with_reducible exact Below.refl _ _) | (with_reducible assumption) | (with_reducible refine Below.setCell ?_ ?_ _) | (with_reducible refine Below.alloc ?_ ?_ _) | (with_reducible refine below_drewN ?_ _) | (with_reducible refine Below.drew ?_) | (with_reducible exact Nat.le_refl _) | omega | (simp; done) | (simp; omega))))
  rintro e w1 ⟨rfl, hb1⟩
  have hB1 : Below w.heap.size w w1 := (((Below.refl _ w).alloc (Nat.le_refl _) _).drew).trans (hb1.mono (by simp))
  have hbx := (hb1.block w.heap.size (by simp)).trans (heap_alloc_new w (.cells #[.int .i64 0, .int .i64 0] 222))
  have k0 := cell_of_row w1 _ 0 _ _ _ hbx
  have k1 := cell_of_row w1 _ 1 _ _ _ hbx
  have kf := fun j => frozen_of_row w1 _ j _ _ hbx
  have l1 : w.heap.size < w1.heap.size := lt_of_block hbx
  have Hbx := Lib.hid hbx
  clear hb1 hbx
  dsimp only
  refine hK.out _ _ trivial (fun hSw => ?_)
  clear hK K
  refine wpAnyH_take (i := 3) (v := ?_) rfl (by kernel_rfl) (by kernel_rfl) (by kernel_rfl) (fun _ _ _ h => h) (Or.inl ⟨by rfl, ?_⟩) hSw ?_
  rotate_left
  · intro w9 hS9; (try dsimp only at hS9); have s1 := hS9; go_simp; (try with_reducible rfl)
  simp only [List.getElem_toArray, List.getElem_cons_succ, List.getElem_cons_zero, Act.put, List.setIfInBounds_toArray, List.set_cons_zero, List.set_cons_succ]
  refine wpAnyH_ready (rs := [8]) (by kernel_rfl) (by simp) ?_
  refine AllReadyH.cons rfl (fun K hK => ?_) AllReadyH.nil
  simp only [List.getElem_toArray, List.getElem_cons_succ, List.getElem_cons_zero]
  go_simp
  refine (Hct.out _ hB1).mono ?_
  rintro e w2 ⟨rfl, m, rfl⟩
  dsimp only
  refine hK.out _ _ trivial (fun hSw => ?_)
  clear hK K
  refine wpAnyH_take (i := 9) (v := ?_) rfl (by kernel_rfl) (by kernel_rfl) (by kernel_rfl) (fun _ _ _ h => h) (Or.inl ⟨by rfl, ?_⟩) hSw ?_
  rotate_left
  · intro w9 hS9; (try dsimp only at hS9); have s1 := hS9; go_simp; (try with_reducible rfl)
  simp only [List.getElem_toArray, List.getElem_cons_succ, List.getElem_cons_zero, Act.put, List.setIfInBounds_toArray, List.set_cons_zero, List.set_cons_succ]
  refine wpAnyH_ready (rs := [10]) (by kernel_rfl) (by simp) ?_
  refine AllReadyH.cons rfl (fun K hK => ?_) AllReadyH.nil
  simp only [List.getElem_toArray, List.getElem_cons_succ, List.getElem_cons_zero]
  go_simp
  refine hK.out _ _ trivial (fun hSw => ?_)
  clear hK K
  refine wpAnyH_done (by kernel_rfl) ?_ _
  go_wp2_with fail
  have e1 := heap_setCell_same (w1.drewN m) w.heap.size 0 _ _ (.int .i64 M) Hbx.out
  have e2 := heap_setCell_same _ w.heap.size 1 _ _ (.int .i64 N) e1
  have hb9 : Below w.heap.size w (((w1.drewN m).setCell ⟨w.heap.size, 0, none⟩ (.int .i64 M)).setCell ⟨w.heap.size, 1, none⟩ (.int .i64 N)) := by (focus (repeat' (first | (with_reducible exact Below.refl _ _) | (with_reducible assumption) | (with_reducible refine Below.setCell ?_ ?_ _) | (with_reducible refine Below.alloc ?_ ?_ _) | (with_reducible refine below_drewN ?_ _) | (with_reducible refine Below.drew ?_) | (with_reducible exact Nat.le_refl _) | omega | (simp; done) | (simp; omega))))
  obtain ⟨W9, hW9⟩ : ∃ W9, W9 = ((w1.drewN m).setCell ⟨w.heap.size, 0, none⟩ (.int .i64 M)).setCell ⟨w.heap.size, 1, none⟩ (.int .i64 N) := ⟨_, rfl⟩
  rw [← hW9] at e2 hb9 ⊢
  have e3 : W9.heap[w.heap.size]? = some (.cells #[.int .i64 M, .int .i64 N] 222 (0, 0)) := e2
  have x0 := cell_of_row W9 _ 0 _ _ _ e3
  have x1 := cell_of_row W9 _ 1 _ _ _ e3
  have xf := fun j => frozen_of_row W9 _ j _ _ e3
  exact bodyPost_ret (v := .agg #[.int .i64 M, .int .i64 N]) (by simp [results, Tryz.results150, go_sem, x0, x1]) rfl ⟨rfl, hb9⟩
end Go.Proofs.YtfiojofcafjfeaaGreat
