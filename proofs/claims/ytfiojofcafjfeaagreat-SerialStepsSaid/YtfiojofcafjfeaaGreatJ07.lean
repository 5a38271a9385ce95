/- The values of a network, layer by layer, in plain lists. The walks of sakiaref09: the small functions. The closure of Net.Trace: one vector more. The walks of package shape: what is asked of a shape. No condition. -/
import Derived.Test.YtfiojofcafjfeaaGreatJ05
import Derived.Test.YtfiojofcafjfeaaGreatJ06
import Derived.Test.YtfiojofcafjfeaaGreatJ02
import Derived.Test.YtfiojofcafjfeaaGreatJ04
import Derived.Test.YtfiojofcafjfeaaGreatProg
import Derived.WalkSpells
import Derived.BigQuiet
import Derived.Deep.QuietTactic
set_option linter.unusedSimpArgs false
set_option linter.unusedVariables false
namespace Go.Proofs.YtfiojofcafjfeaaGreat
open Go.RowKit

def reluL (l : List Int) : List Int := upTo l.length fun i => max (nth l i) 0
/-- The sums behind layer k. -/
def zL (sz ps : List Int) (q : Int) (k : Nat) (v : List Int) : List Int := addL (mulL (wL sz ps k) (szN sz (k + 1)) (szN sz k) v q) (bL sz ps k)
/-- The values of layer k. -/
def valL (sz ps : List Int) (q : Int) (x : List Int) : Nat → List Int
  | 0 => x
  | k + 1 => if k + 1 < sz.length - 1 then reluL (zL sz ps q k (valL sz ps q x k)) else zL sz ps q k (valL sz ps q x k)

theorem W64.nth {l : List Int} (h : W64 l) (k : Nat) : -9223372036854775808 ≤ nth l k ∧ nth l k ≤ 9223372036854775807 := by
  by_cases hk : k < l.length
  · exact h k hk
  · have : Go.Proofs.YtfiojofcafjfeaaGreat.nth l k = 0 := by unfold Go.Proofs.YtfiojofcafjfeaaGreat.nth; simp [List.getD, List.getElem?_eq_none (show l.length ≤ k by omega)]
    omega
theorem wL_W64 {ps : List Int} (h : W64 ps) (sz : List Int) (k : Nat) : W64 (wL sz ps k) := upTo_W64 fun _ _ => h.nth _
theorem bL_W64 {ps : List Int} (h : W64 ps) (sz : List Int) (k : Nat) : W64 (bL sz ps k) := upTo_W64 fun _ _ => h.nth _
theorem dotL_bd (xs ys : List Int) (q : Int) : -9223372036854775808 ≤ dotL xs ys q ∧ dotL xs ys q ≤ 9223372036854775807 := dotN_bd _ _ _ _
theorem mulL_W64 (ms : List Int) (r c : Nat) (xs : List Int) (q : Int) : W64 (mulL ms r c xs q) := upTo_W64 fun _ _ => dotL_bd _ _ _
theorem mulL_len (ms : List Int) (r c : Nat) (xs : List Int) (q : Int) : (mulL ms r c xs q).length = r := upTo_len _ _
theorem addL_len (xs ys : List Int) : (addL xs ys).length = xs.length := upTo_len _ _
theorem addL_W64 (xs ys : List Int) : W64 (addL xs ys) := upTo_W64 fun _ _ => wrap64_bd _
theorem reluL_len (l : List Int) : (reluL l).length = l.length := upTo_len _ _
theorem reluL_W64 {l : List Int} (h : W64 l) : W64 (reluL l) := upTo_W64 fun k _ => by have := h.nth k; omega
theorem zL_len (sz ps : List Int) (q : Int) (k : Nat) (v : List Int) : (zL sz ps q k v).length = szN sz (k + 1) := by unfold zL; rw [addL_len, mulL_len]
theorem zL_W64 (sz ps : List Int) (q : Int) (k : Nat) (v : List Int) : W64 (zL sz ps q k v) := addL_W64 _ _
theorem valL_len {sz ps : List Int} {q : Int} {x : List Int} (h : x.length = szN sz 0) (k : Nat) : (valL sz ps q x k).length = szN sz k := by
  cases k with
  | zero => exact h
  | succ k =>
    unfold valL
    split
    · rw [reluL_len, zL_len]
    · rw [zL_len]
theorem valL_W64 {sz ps : List Int} {q : Int} {x : List Int} (h : W64 x) (k : Nat) : W64 (valL sz ps q x k) := by
  cases k with
  | zero => exact h
  | succ k =>
    unfold valL
    split
    · exact reluL_W64 (zL_W64 _ _ _ _ _)
    · exact zL_W64 _ _ _ _ _

/-- Vectors in memory, the cells of their slices. -/
def VecsAt (w : World) (vals : List Value) (n : Nat) (f : Nat → List Int) : Prop := vals.length = n ∧ ∀ j, j < n → ∃ A c, vals[j]? = some (.slice A (f j).length c) ∧ (f j).length ≤ c ∧ Rd w A (nums .i64 (f j))
theorem VecsAt.below {w w' : World} {vals : List Value} {n : Nat} {f : Nat → List Int} (h : VecsAt w vals n f) (hb : Below w.heap.size w w') : VecsAt w' vals n f :=
  ⟨h.1, fun j hj => by obtain ⟨A, c, h1, h2, h3⟩ := h.2 j hj; exact ⟨A, c, h1, h2, h3.below hb⟩⟩
end Go.Proofs.YtfiojofcafjfeaaGreat
namespace Go.Proofs.YtfiojofcafjfeaaGreat
open Go.RowKit

/-- A network of the reference, as a value. -/
def rnetV (As Ap : Option Addr) (sz ps : List Int) (cs cp : Nat) (q : Int) : Value := .agg #[.slice As sz.length cs, .slice Ap ps.length cp, .int .i64 q]
/-- What it says. -/
structure RNet (w : World) (As Ap : Option Addr) (sz ps : List Int) (cs : Nat) : Prop where
  hA : Rd w As (nums .i64 sz)
  hP : Rd w Ap (nums .i64 ps)
  hg : GoodSz sz
  hl : ps.length = cntN sz (sz.length - 1)
  hc : sz.length ≤ cs
  wp : W64 ps
theorem RNet.below {w w' : World} {As Ap : Option Addr} {sz ps : List Int} {cs : Nat} (h : RNet w As Ap sz ps cs) (hb : Below w.heap.size w w') : RNet w' As Ap sz ps cs := ⟨h.hA.below hb, h.hP.below hb, h.hg, h.hl, h.hc, h.wp⟩
theorem RNet.drew {w : World} {As Ap : Option Addr} {sz ps : List Int} {cs : Nat} (h : RNet w As Ap sz ps cs) : RNet w.drew As Ap sz ps cs := ⟨h.hA, h.hP, h.hg, h.hl, h.hc, h.wp⟩

theorem rlast_any (As Ap : Option Addr) (n m cs cp : Nat) (q : Int) (w : World) (hn : 1 ≤ n ∧ n ≤ 1000) : Calls Tryz.prog 89 #[.agg #[.slice As n cs, .slice Ap m cp, .int .i64 q]] w fun e w' => e = .returned (.int .i64 ((n - 1 : Nat) : Int)) ∧ Below w.heap.size w w' := by
  obtain ⟨h1, h2⟩ := hn
  have hw : IntKind.i64.wrap ((n : Int) - 1) = ((n - 1 : Nat) : Int) := by rw [IntWalk.i64_in _ (by omega)]; omega
  have hw2 : (n : Int) - 1 = ((n - 1 : Nat) : Int) := by omega
  rw [hw2] at hw
  go_enter Tryz.func89, Tryz.ntmps89
  go_wp2
  go_ret
  refine ⟨by first | rfl | (rw [hw2]; rfl), ?_⟩
  (focus (repeat' (first | (with_reducible exact Below.refl _ _) | (with_reducible assumption) | (with_reducible refine Below.setCell ?_ ?_ _) | (with_reducible refine Below.alloc ?_ ?_ _) | (with_reducible refine below_drewN ?_ _) | (with_reducible refine Below.drew ?_) | (with_reducible exact Nat.le_refl _) | omega | (simp; done) | (simp; omega))))

set_option maxHeartbeats 400000 in
theorem rweight_any (As Ap : Option Addr) (sz ps : List Int) (cs cp k r c : Nat) (q : Int) (w : World) (h : RNet w As Ap sz ps cs) (hk : k + 1 < sz.length) (hr : r < szN sz (k + 1)) (hc : c < szN sz k) :
    Calls Tryz.prog 120 #[.agg #[.slice As sz.length cs, .slice Ap ps.length cp, .int .i64 q], .int .i64 k, .int .i64 r, .int .i64 c] w fun e w' => e = .returned (.int .i64 (nth ps (cntN sz k + r * szN sz k + c))) ∧ Below w.heap.size w w' := by
  have hR := h.hg.1
  have hl16 := hR.1.2
  have z0 := hR.at (k := k) (by omega)
  have hmul := h.hg.mul hk
  have hin : cntN sz k + r * szN sz k + c < ps.length := by
    have h1 := midN_eq sz k
    have h2 := cntN_mono sz (show k + 1 ≤ sz.length - 1 by omega)
    have h3 : r * szN sz k + szN sz k ≤ szN sz (k + 1) * szN sz k := by
      have := Nat.mul_le_mul_right (szN sz k) (show r + 1 ≤ szN sz (k + 1) by omega)
      rwa [Nat.succ_mul] at this
    have h4 := h.hl
    unfold midN at h1
    omega
  have hwt := fun w' (hb : Below w.heap.size w w') => rweights_any As sz k cs w' (h.hA.below hb) hR hk h.hc
  have hpl : ps.length ≤ 1048576 := by rw [h.hl]; exact h.hg.2
  obtain ⟨b, o, rfl, p0⟩ := h.hA.num (show k < sz.length by omega)
  obtain ⟨b2, o2, rfl, p2⟩ := h.hP.num hin
  have hrc : r * szN sz k ≤ szN sz (k + 1) * szN sz k := Nat.mul_le_mul_right _ (by omega)
  rw [z0.2.2] at p0
  obtain ⟨a, ha⟩ : ∃ a, szN sz k = a := ⟨_, rfl⟩
  obtain ⟨N, hN⟩ : ∃ N, cntN sz k = N := ⟨_, rfl⟩
  obtain ⟨n, hn⟩ : ∃ n, sz.length = n := ⟨_, rfl⟩
  obtain ⟨m, hm⟩ : ∃ m, ps.length = m := ⟨_, rfl⟩
  rw [ha] at p0 p2 hin hc hrc z0 ⊢
  rw [hN] at p2 hin hwt ⊢
  rw [hn] at hwt hk hl16 ⊢
  rw [hm] at hin hpl ⊢
  obtain ⟨ra, hra⟩ : ∃ ra, r * a = ra := ⟨_, rfl⟩
  rw [hra] at p2 hin hrc ⊢
  have hbl : b < w.heap.size := lt_of_cell p0
  have hbl2 : b2 < w.heap.size := lt_of_cell p2
  have hpp : (r : Int) * (a : Int) = (ra : Int) := by rw [← hra]; push_cast; rfl
  have Hwt := Lib.hid hwt
  clear hwt h hR hmul hrc z0 hn hm hN ha hra hr
  have hw1 : IntKind.i64.wrap ((r : Int) * (a : Int)) = (ra : Int) := by rw [hpp]; exact IntWalk.i64_in _ (by omega)
  have hw2 : IntKind.i64.wrap ((N : Int) + (ra : Int)) = (N : Int) + ra := IntWalk.i64_in _ (by omega)
  have hw3 : IntKind.i64.wrap ((N : Int) + (ra : Int) + (c : Int)) = (N : Int) + ra + c := IntWalk.i64_in _ (by omega)
  have hi1 : (0 : Int) ≤ (N : Int) + ra + c := by omega
  have hi2 : (N : Int) + ra + c < m := by omega
  have hi3 : ((N : Int) + ra + c).toNat = N + ra + c := by omega
  have hi4 : (k : Int) < n := by omega
  have hi5 : k < n := by omega
  have hfd := rrng_lo
  clear hpp
  go_enter Tryz.func120, Tryz.ntmps120
  go_wp2_with fail
  go_region_held3 (fun w' => w'.cell? ⟨w.heap.size, 0, none⟩ = some (.slice (some ⟨b, o, none⟩) n cs) ∧ w'.cell? ⟨w.heap.size, 1, none⟩ = some (.slice (some ⟨b2, o2, none⟩) m cp) ∧ w'.cell? ⟨b, o + k, none⟩ = some (.int .i64 a) ∧ w'.cell? ⟨b2, o2 + (N + ra + c), none⟩ = some (.int .i64 (nth ps (N + ra + c)))) (simp [go_sem, World.cell?_alloc_past, *])
    ((go_at_call 140; refine (Hwt.out _ ?_).mono ?_; (focus ((focus (repeat' (first | (with_reducible exact Below.refl _ _) | (with_reducible assumption) | (with_reducible refine Below.setCell ?_ ?_ _) | (with_reducible refine Below.alloc ?_ ?_ _) | (with_reducible refine below_drewN ?_ _) | (with_reducible refine Below.drew ?_) | (with_reducible exact Nat.le_refl _) | omega | (simp; done) | (simp; omega)))); done)); rintro e w1 ⟨rfl, hb1⟩; have hB1 : Below w.heap.size w w1 := Below.trans (by (focus (repeat' (first | (with_reducible exact Below.refl _ _) | (with_reducible assumption) | (with_reducible refine Below.setCell ?_ ?_ _) | (with_reducible refine Below.alloc ?_ ?_ _) | (with_reducible refine below_drewN ?_ _) | (with_reducible refine Below.drew ?_) | (with_reducible exact Nat.le_refl _) | omega | (simp; done) | (simp; omega))))) (hb1.mono (by simp)); have g0 := cell_below hb1 (cell_of_row _ w.heap.size 0 _ _ _ (heap_alloc_new w (.cells #[.slice (some ⟨b, o, none⟩) n cs, .slice (some ⟨b2, o2, none⟩) m cp, .int .i64 q] 112))); have g1 := cell_below hb1 (cell_of_row _ w.heap.size 1 _ _ _ (heap_alloc_new w (.cells #[.slice (some ⟨b, o, none⟩) n cs, .slice (some ⟨b2, o2, none⟩) m cp, .int .i64 q] 112))); have g2 := (hB1.cell (p := ⟨b, o + k, none⟩) hbl).trans p0; have g3 := (hB1.cell (p := ⟨b2, o2 + (N + ra + c), none⟩) hbl2).trans p2; have HB1 := Lib.hid hB1; clear hb1 hB1))
  go_wp2_with fail
  go_ret
  exact ⟨rfl, HB1.out⟩

set_option maxHeartbeats 400000 in
theorem rbias_any (As Ap : Option Addr) (sz ps : List Int) (cs cp k r : Nat) (q : Int) (w : World) (h : RNet w As Ap sz ps cs) (hk : k + 1 < sz.length) (hr : r < szN sz (k + 1)) :
    Calls Tryz.prog 139 #[.agg #[.slice As sz.length cs, .slice Ap ps.length cp, .int .i64 q], .int .i64 k, .int .i64 r] w fun e w' => e = .returned (.int .i64 (nth ps (midN sz k + r))) ∧ Below w.heap.size w w' := by
  have hR := h.hg.1
  have hl16 := hR.1.2
  have hin : midN sz k + r < ps.length := by
    have h1 := midN_eq sz k
    have h2 := cntN_mono sz (show k + 1 ≤ sz.length - 1 by omega)
    have h4 := h.hl
    omega
  have hbi := fun w' (hb : Below w.heap.size w w') => rbiases_any As sz k cs w' (h.hA.below hb) hR hk h.hc
  have hpl : ps.length ≤ 1048576 := by rw [h.hl]; exact h.hg.2
  obtain ⟨b, o, rfl, p0⟩ := h.hA.num (show k < sz.length by omega)
  obtain ⟨b2, o2, rfl, p2⟩ := h.hP.num hin
  obtain ⟨M, hM⟩ : ∃ M, midN sz k = M := ⟨_, rfl⟩
  obtain ⟨n, hn⟩ : ∃ n, sz.length = n := ⟨_, rfl⟩
  obtain ⟨m, hm⟩ : ∃ m, ps.length = m := ⟨_, rfl⟩
  rw [hM] at p2 hin hbi ⊢
  rw [hn] at hbi hk hl16 ⊢
  rw [hm] at hin hpl ⊢
  have hbl2 : b2 < w.heap.size := lt_of_cell p2
  have Hbi := Lib.hid hbi
  clear hbi h hR hn hm hM hr p0
  have hw2 : IntKind.i64.wrap ((M : Int) + (r : Int)) = (M : Int) + r := IntWalk.i64_in _ (by omega)
  have hi1 : (0 : Int) ≤ (M : Int) + r := by omega
  have hi2 : (M : Int) + r < m := by omega
  have hi3 : ((M : Int) + r).toNat = M + r := by omega
  have hfd := rrng_lo
  go_enter Tryz.func139, Tryz.ntmps139
  go_wp2_with fail
  go_region_held3 (fun w' => w'.cell? ⟨w.heap.size, 0, none⟩ = some (.slice (some ⟨b, o, none⟩) n cs) ∧ w'.cell? ⟨w.heap.size, 1, none⟩ = some (.slice (some ⟨b2, o2, none⟩) m cp) ∧ w'.cell? ⟨b2, o2 + (M + r), none⟩ = some (.int .i64 (nth ps (M + r)))) (simp [go_sem, World.cell?_alloc_past, *])
    ((go_at_call 150; refine (Hbi.out _ ?_).mono ?_; (focus ((focus (repeat' (first | (with_reducible exact Below.refl _ _) | (with_reducible assumption) | (with_reducible refine Below.setCell ?_ ?_ _) | (with_reducible refine Below.alloc ?_ ?_ _) | (with_reducible refine below_drewN ?_ _) | (with_reducible refine Below.drew ?_) | (with_reducible exact Nat.le_refl _) | omega | (simp; done) | (simp; omega)))); done)); rintro e w1 ⟨rfl, hb1⟩; have hB1 : Below w.heap.size w w1 := Below.trans (by (focus (repeat' (first | (with_reducible exact Below.refl _ _) | (with_reducible assumption) | (with_reducible refine Below.setCell ?_ ?_ _) | (with_reducible refine Below.alloc ?_ ?_ _) | (with_reducible refine below_drewN ?_ _) | (with_reducible refine Below.drew ?_) | (with_reducible exact Nat.le_refl _) | omega | (simp; done) | (simp; omega))))) (hb1.mono (by simp)); have g0 := cell_below hb1 (cell_of_row _ w.heap.size 0 _ _ _ (heap_alloc_new w (.cells #[.slice (some ⟨b, o, none⟩) n cs, .slice (some ⟨b2, o2, none⟩) m cp, .int .i64 q] 112))); have g1 := cell_below hb1 (cell_of_row _ w.heap.size 1 _ _ _ (heap_alloc_new w (.cells #[.slice (some ⟨b, o, none⟩) n cs, .slice (some ⟨b2, o2, none⟩) m cp, .int .i64 q] 112))); have g3 := (hB1.cell (p := ⟨b2, o2 + (M + r), none⟩) hbl2).trans p2; have HB1 := Lib.hid hB1; clear hb1 hB1))
  go_wp2_with fail
  go_ret
  exact ⟨rfl, HB1.out⟩

/-- The sum of a value, as the reference reckons it. -/
def sumN (sz ps : List Int) (q : Int) (k r : Nat) (v : List Int) : Nat → Int
  | 0 => nth ps (midN sz k + r)
  | c + 1 => wrap64 (sumN sz ps q k r v c + mulQ (nth ps (cntN sz k + r * szN sz k + c)) (nth v c) q)
theorem sumN_bd {ps : List Int} (wp : W64 ps) (sz : List Int) (q : Int) (k r : Nat) (v : List Int) (c : Nat) : -9223372036854775808 ≤ sumN sz ps q k r v c ∧ sumN sz ps q k r v c ≤ 9223372036854775807 := by
  cases c with
  | zero => exact wp.nth _
  | succ c => exact wrap64_bd _

set_option maxHeartbeats 1000000 in
theorem rsum_any (As Ap : Option Addr) (sz ps : List Int) (cs cp k r : Nat) (q : Int) (V : Option Addr) (v : List Int) (cv : Nat) (w : World) (h : RNet w As Ap sz ps cs) (hk : k + 1 < sz.length) (hr : r < szN sz (k + 1)) (hV : Rd w V (nums .i64 v)) (hv : v.length = szN sz k) (wv : W64 v) :
    Calls Tryz.prog 118 #[.agg #[.slice As sz.length cs, .slice Ap ps.length cp, .int .i64 q], .int .i64 k, .int .i64 r, .slice V v.length cv] w fun e w' => e = .returned (.int .i64 (sumN sz ps q k r v v.length)) ∧ Below w.heap.size w w' := by
  have hbi := fun w' (hb : Below w.heap.size w w') => rbias_any As Ap sz ps cs cp k r q w' (h.below hb) hk hr
  have hwe := fun c (hc : c < szN sz k) w' (hb : Below w.heap.size w w') => rweight_any As Ap sz ps cs cp k r c q w' (h.below hb) hk hr hc
  have hvb : v.length ≤ 1048576 := by rw [hv]; exact (h.hg.1.at (k := k) (by omega)).2.1
  obtain ⟨n, hn⟩ : ∃ n, sz.length = n := ⟨_, rfl⟩
  obtain ⟨m, hm⟩ : ∃ m, ps.length = m := ⟨_, rfl⟩
  obtain ⟨x, hx⟩ : ∃ x, v.length = x := ⟨_, rfl⟩
  rw [hn, hm] at hbi hwe ⊢
  rw [hx] at hvb ⊢
  have Hbi := Lib.hid hbi; have Hwe := Lib.hid hwe; have HV := Lib.hid hV; have Hv := Lib.hid hv; have Hx := Lib.hid hx; have WV := Lib.hid wv; have WP := Lib.hid h.wp
  clear hbi hwe hV hv hx wv h hn hm hr hk
  go_enter Tryz.func118, Tryz.ntmps118
  go_wp2_with fail
  refine (Hbi.out _ ?_).mono ?_
  · (focus (repeat' (first | (with_reducible exact Below.refl _ _) | (with_reducible assumption) | (with_reducible refine Below.setCell ?_ ?_ _) | (with_reducible refine Below.alloc ?_ ?_ _) | (with_reducible refine below_drewN ?_ _) | (with_reducible refine Below.drew ?_) | (with_reducible exact Nat.le_refl _) | omega | (simp; done) | (simp; omega))))
  rintro e w1 ⟨rfl, hb1⟩
  have hbx := (hb1.block w.heap.size (by simp)).trans (heap_alloc_new w (.cells #[.slice As n cs, .slice Ap m cp, .int .i64 q] 112))
  have hB1 : Below w.heap.size w w1 := ((Below.refl _ w).alloc (Nat.le_refl _) _).trans (hb1.mono (by simp))
  have Hbx := Lib.hid hbx; have HB1 := Lib.hid hB1; clear hb1 hbx hB1
  go_wp2_with fail
  go_loopw [9, 10] (fun s i wr => ∃ c : Nat, c ≤ x ∧ i = .int .i64 c ∧ s = .int .i64 (sumN sz ps q k r v c) ∧ wr.heap[w.heap.size]? = some (.cells #[.slice As n cs, .slice Ap m cp, .int .i64 q] 112 (0, 0)) ∧ Below w.heap.size w wr) (fun _ i _ => x - (intOf i).toNat)
  case atStart => exact ⟨0, Nat.zero_le _, rfl, rfl, Hbx.out, HB1.out⟩
  case round =>
    obtain ⟨c, hc, rfl, rfl, hbx, hW⟩ := hrel
    by_cases hlt : c < x
    · obtain ⟨bv, ov, rfl, pv⟩ := HV.out.num (show c < v.length by rw [Hx.out]; exact hlt)
      have hbv : bv < w.heap.size := lt_of_cell pv
      have pvr := (hW.cell (p := ⟨bv, ov + c, none⟩) hbv).trans pv
      have x0 := cell_of_row wr _ 0 _ _ _ hbx
      have x1 := cell_of_row wr _ 1 _ _ _ hbx
      have x2 := cell_of_row wr _ 2 _ _ _ hbx
      have xf := fun j => frozen_of_row wr _ j _ _ hbx
      have hbxl := lt_of_block hbx
      have hbvr : bv < wr.heap.size := by have := hW.size; omega
      have hwe := Hwe.out c (by have := Hv.out; have := Hx.out; omega)
      have hmu := fun w' => refMul (nth ps (cntN sz k + r * szN sz k + c)) (nth v c) q w' (WP.out.nth _) (WV.out.nth _)
      have Hwk := Lib.hid hwe; have Hmu := Lib.hid hmu; have HW := Lib.hid hW; have Hbx := Lib.hid hbx
      clear hwe hmu hW hbx pv
      have hci : (c : Int) < x := by omega
      go_wp2_with fail
      go_region_held3 (fun w' => w'.cell? ⟨w.heap.size, 0, none⟩ = some (.slice As n cs) ∧ w'.cell? ⟨w.heap.size, 1, none⟩ = some (.slice Ap m cp) ∧ w'.cell? ⟨w.heap.size, 2, none⟩ = some (.int .i64 q) ∧ w'.cell? ⟨bv, ov + c, none⟩ = some (.int .i64 (nth v c))) (simp [go_sem, *])
        ((first | (go_at_call 120; refine (Hwk.out wr.drew HW.out.drew).mono ?_; rintro e w3 ⟨rfl, hb3⟩; have g0 := cell_below hb3 x0; have g1 := cell_below hb3 x1; have g2 := cell_below hb3 x2; have g3 := cell_below hb3 pvr; have hb30 := (hb3.block w.heap.size hbxl).trans Hbx.out; have hB3 := HW.out.trans (((Below.refl wr.heap.size wr).drew.trans hb3).mono HW.out.size); have Hb30 := Lib.hid hb30; have HB3 := Lib.hid hB3; clear hb3 hb30 hB3) | (go_at_call 68; refine (Hmu.out _).mono ?_; rintro e w4 ⟨rfl, rfl⟩)))
      go_wp2_with fail
      go_roundw
      case rel => exact ⟨c + 1, by omega, by go_num, by rw [IntKind.wrap_i64, sumN, wrap64], Hb30.out, HB3.out⟩
      case measure => simp [intOf]; omega
    · obtain rfl : c = x := by omega
      have HW := Lib.hid hW; clear hW hbx
      go_wp2_with fail
      go_ret
      exact ⟨rfl, HW.out⟩

/-- What a network of the reference must meet. -/
def RightN (sz ps : List Int) (q : Int) : Prop := GoodSz sz ∧ 0 ≤ q ∧ q ≤ 62 ∧ ps.length = cntN sz (sz.length - 1)
end Go.Proofs.YtfiojofcafjfeaaGreat
namespace Go.Proofs.YtfiojofcafjfeaaGreat
open Go.RowKit

theorem et_vecs : ElemT Tryz.prog 165 52 (.slice none 0 0) 1 24 := ⟨Tryz.underlying165, info_parts (by kernel_rfl), rfl, by decide⟩

theorem trace1_any (P base : Nat) (A B : Option Addr) (n c m d : Nat) (xs : List Value) (w : World) (hP : w.heap[P]? = some (.cells #[.slice A n c] 165 (0, 0))) (ho : w.ownsRow base 52 1 (.slice A n c) n xs) (hn : n ≤ 1000000) (hbase : base ≤ w.heap.size) (hPb : base ≤ P) :
    Calls Tryz.prog 141 #[.slice B m d, .pointer (some ⟨P, 0, none⟩)] w fun e w' => (∃ v, e = .returned v) ∧ ∃ A' c', w'.heap[P]? = some (.cells #[.slice A' (n + 1) c'] 165 (0, 0)) ∧ w'.ownsRow base 52 1 (.slice A' (n + 1) c') (n + 1) (xs ++ [.slice B m d]) ∧
      Keep (fun i => i = P ∨ (Value.slice A n c).ownBlock = some i) w w' := by
  have p0 := cell_of_row w _ 0 _ _ _ hP
  have pf := fun j => frozen_of_row w _ j _ _ hP
  have hPl := lt_of_block hP
  have HP := Lib.hid hP; have HO := Lib.hid ho; clear hP ho
  go_enter Tryz.func141, Tryz.ntmps141
  go_wp2_with (at_builtin; refine wpList_push et_vecs w rfl (.tmp 3) (.tmp 5) rfl base (.slice A n c) n xs rfl HO.out [.slice B m d] rfl rfl (by simp [Value.oneCell']) (by omega) (by unfold maxLen; omega) hbase ?_)
  intro g c' w1 ho1 hb1 hg1
  have hP1 := (hg1.block P hPl (block_notrow HP.out (by decide) HO.out)).trans HP.out
  have hg1 : Keep (fun i => i = P ∨ (Value.slice A n c).ownBlock = some i) w w1 := (Keep.refl _ w).grown hg1 (fun k hk => .inr (.inr hk))
  have q0 := cell_of_row w1 _ 0 _ _ _ hP1
  have qf := fun j => frozen_of_row w1 _ j _ _ hP1
  have HP1 := Lib.hid hP1; have HO1 := Lib.hid ho1; have HG := Lib.hid hg1; clear hP1 ho1 hb1 hg1
  go_wp2_with fail
  have h9 := heap_setCell_same w1 P 0 _ _ (.slice (some ⟨g, 0, none⟩) (n + 1) c') HP1.out
  have k9 : Keep (fun i => i = P) w1 (w1.setCell ⟨P, 0, none⟩ (.slice (some ⟨g, 0, none⟩) (n + 1) c')) := Keep.setCell (S := fun i => i = P) (Keep.refl _ _) ⟨P, 0, none⟩ (.inr rfl) _
  have o9 := k9.own HO1.out (fun i hi e => block_notrow HP1.out (by decide) HO1.out (by rw [hi, e]))
  have g9 := HG.out.setCell ⟨P, 0, none⟩ (.inr (.inl rfl)) (.slice (some ⟨g, 0, none⟩) (n + 1) c')
  go_end0
  exact ⟨⟨_, rfl⟩, _, _, h9, o9, g9⟩
end Go.Proofs.YtfiojofcafjfeaaGreat
namespace Go.Proofs.YtfiojofcafjfeaaGreat
open Go.RowKit

theorem et_ints : ElemT Tryz.prog 22 3 (.int .i64 0) 1 8 := ⟨Tryz.underlying22, info_parts (by kernel_rfl), rfl, by decide⟩
theorem iclone_any (A : Option Addr) (zs : List Int) (c : Nat) (w : World) (hA : Rd w A (nums .i64 zs)) (hl : zs.length ≤ 17592186043904) :
    Calls Tryz.prog 18 #[.slice A zs.length c] w fun e w' => ∃ v, e = .returned v ∧ w'.ownsRow w.heap.size 3 1 v zs.length (nums .i64 zs) ∧ Below w.heap.size w w' := by
  have q := fun (w : World) => Lib.run_eql_slice_nil (P := Tryz.prog) w 22 3 A zs.length c 0 0 Tryz.underlying22
  cases A with
  | none =>
    have hz : zs = [] := by
      cases zs with
      | nil => rfl
      | cons z l => obtain ⟨b, o, h, _⟩ := hA 0 _ rfl; cases h
    subst hz
    clear q
    have q := fun (w : World) => Lib.run_eql_slice_nil (P := Tryz.prog) w 22 3 none 0 c 0 0 Tryz.underlying22
    simp only [Option.isNone_none] at q
    rw [List.length_nil]
    go_enter Tryz.func18, Tryz.ntmps18
    go_wp2
    go_ret
    exact ⟨_, rfl, World.ownsRow_nil _ _ _ _, Below.refl _ _⟩
  | some a =>
    go_enter Tryz.func18, Tryz.ntmps18
    go_wp2_with (at_builtin; refine wpList_app et_ints _ rfl (.tmp 5) (.tmp 6) rfl w.heap.size _ 0 [] rfl (own_empty w 3 1) _ zs.length c (nums .i64 zs) rfl (hA.alloc _) (by rw [nums_length]; omega) (nums_cell _ _) (by omega) (by unfold maxLen; omega) (by simp) ?_)
    intro A' c' w1 hown hb _ _
    have hb1 := ((Below.refl _ w).alloc (Nat.le_refl _) (.cells #[] 3)).trans hb
    have Hown := Lib.hid hown; have Hb1 := Lib.hid hb1; clear hown hb hb1
    go_wp2
    go_ret
    exact ⟨_, rfl, Hown.out, Hb1.out⟩

theorem shape_sizes (b : Nat) (sz : List Int) (w : World) (h : ShapeAt 138 w b sz) (hl : sz.length ≤ 17592186043904) :
    Calls Tryz.prog 123 #[.pointer (some ⟨b, 0, none⟩)] w fun e w' => ∃ A c, e = .returned (.slice A sz.length c) ∧ w'.ownsRow w.heap.size 3 1 (.slice A sz.length c) sz.length (nums .i64 sz) ∧ Below w.heap.size w w' := by
  obtain ⟨A1, c1, A2, c2, A3, c3, h0, h1, h2, h3⟩ := h
  have r0 := cell_of_row w _ 0 _ _ _ h0
  have r1 := cell_of_row w _ 1 _ _ _ h0
  have r2 := cell_of_row w _ 2 _ _ _ h0
  have r3 := cell_of_row w _ 3 _ _ _ h0
  have rf := fun j => frozen_of_row w _ j _ _ h0
  have hc := iclone_any A1 sz c1 w h1 hl
  have Hc := Lib.hid hc; clear hc h0 h1 h2 h3
  go_enter Tryz.func123, Tryz.ntmps123
  go_wp2_with fail
  refine Hc.out.mono ?_
  rintro e w1 ⟨v, rfl, hown, hb⟩
  obtain ⟨A', c', rfl, hc'⟩ := own_form hown
  have Hown := Lib.hid hown; have Hb := Lib.hid hb; clear hown hb hc'
  clear r0 r1 r2 r3 rf
  go_wp2
  go_ret
  exact ⟨_, _, rfl, Hown.out, Hb.out⟩

theorem shape_links (b : Nat) (sz : List Int) (w : World) (h : ShapeAt 138 w b sz) :
    Calls Tryz.prog 94 #[.pointer (some ⟨b, 0, none⟩)] w fun e w' => e = .returned (.int .i64 ((sz.length - 1 : Nat) : Int)) ∧ w = w' := by
  obtain ⟨A1, c1, A2, c2, A3, c3, h0, h1, h2, h3⟩ := h
  have r0 := cell_of_row w _ 0 _ _ _ h0
  have r1 := cell_of_row w _ 1 _ _ _ h0
  have r2 := cell_of_row w _ 2 _ _ _ h0
  have r3 := cell_of_row w _ 3 _ _ _ h0
  have rf := fun j => frozen_of_row w _ j _ _ h0
  clear h0 h1 h2 h3
  go_enter Tryz.func94, Tryz.ntmps94
  go_wp2
  go_ret
  exact ⟨rfl, rfl⟩

theorem shape_count (b : Nat) (sz : List Int) (w : World) (h : ShapeAt 138 w b sz) :
    Calls Tryz.prog 73 #[.pointer (some ⟨b, 0, none⟩)] w fun e w' => e = .returned (.int .i64 (cntN sz (sz.length - 1) : Int)) ∧ w = w' := by
  obtain ⟨A1, c1, A2, c2, A3, c3, h0, h1, h2, h3⟩ := h
  have r0 := cell_of_row w _ 0 _ _ _ h0
  have r1 := cell_of_row w _ 1 _ _ _ h0
  have r2 := cell_of_row w _ 2 _ _ _ h0
  have r3 := cell_of_row w _ 3 _ _ _ h0
  have rf := fun j => frozen_of_row w _ j _ _ h0
  clear h0 h1 h2 h3
  go_enter Tryz.func73, Tryz.ntmps73
  go_wp2
  go_ret
  exact ⟨rfl, rfl⟩

set_option maxHeartbeats 400000 in
theorem shape_weights (b : Nat) (sz : List Int) (k : Nat) (w : World) (h : ShapeAt 138 w b sz) (hl : sz.length ≤ 17592186043904) (hk : k < sz.length - 1) :
    Calls Tryz.prog 95 #[.pointer (some ⟨b, 0, none⟩), .int .i64 k] w fun e w' => e = .returned (.agg #[.int .i64 (cntN sz k : Int), .int .i64 (midN sz k : Int)]) ∧ Below w.heap.size w w' := by
  have hlk := fun w' (hb : Below w.heap.size w w') => shape_links b sz w' (h.below hb)
  have hb0 := h.lt
  obtain ⟨A1, c1, A2, c2, A3, c3, h0, h1, h2, h3⟩ := h
  obtain ⟨n, hn⟩ : ∃ n, sz.length - 1 = n := ⟨_, rfl⟩
  rw [hn] at h0 h2 h3 hk hlk
  have r0 := cell_of_row w _ 0 _ _ _ h0
  have r1 := cell_of_row w _ 1 _ _ _ h0
  have r2 := cell_of_row w _ 2 _ _ _ h0
  have r3 := cell_of_row w _ 3 _ _ _ h0
  have rf := fun j => frozen_of_row w _ j _ _ h0
  obtain ⟨e1, e2⟩ := wVals_at sz hk
  obtain ⟨b2, o2, rfl, p1⟩ := h2 _ _ e1
  obtain ⟨b2', o2', e', p2⟩ := h2 _ _ e2
  injection e' with e'; injection e' with e3 e4 _
  subst e3; subst e4
  rw [show o2 + (k * 2 + 1) = o2 + k * 2 + 1 by omega] at p2
  have hb2 := lt_of_cell p1
  have Hlk := Lib.hid hlk
  have hnl : n ≤ 17592186043904 := by omega
  clear hlk h0 h1 h2 h3 e1 e2 hn hl
  go_enter Tryz.func95, Tryz.ntmps95
  go_wp2_with fail
  refine (Hlk.out _ ?_).mono ?_
  · (focus (repeat' (first | (with_reducible exact Below.refl _ _) | (with_reducible assumption) | (with_reducible refine Below.setCell ?_ ?_ _) | (with_reducible refine Below.alloc ?_ ?_ _) | (with_reducible refine below_drewN ?_ _) | (with_reducible refine Below.drew ?_) | (with_reducible exact Nat.le_refl _) | omega | (simp; done) | (simp; omega))))
  rintro e w' ⟨rfl, rfl⟩
  have hlt : (k : Int) < n := by omega
  go_wp2_with fail
  refine bodyPost_ret (v := .agg #[.int .i64 (cntN sz k : Int), .int .i64 (midN sz k : Int)]) (by simp [results, Tryz.results95, go_sem]) rfl ⟨rfl, ?_⟩
  (focus (repeat' (first | (with_reducible exact Below.refl _ _) | (with_reducible assumption) | (with_reducible refine Below.setCell ?_ ?_ _) | (with_reducible refine Below.alloc ?_ ?_ _) | (with_reducible refine below_drewN ?_ _) | (with_reducible refine Below.drew ?_) | (with_reducible exact Nat.le_refl _) | omega | (simp; done) | (simp; omega))))

set_option maxHeartbeats 400000 in
theorem shape_biases (b : Nat) (sz : List Int) (k : Nat) (w : World) (h : ShapeAt 138 w b sz) (hl : sz.length ≤ 17592186043904) (hk : k < sz.length - 1) :
    Calls Tryz.prog 96 #[.pointer (some ⟨b, 0, none⟩), .int .i64 k] w fun e w' => e = .returned (.agg #[.int .i64 (midN sz k : Int), .int .i64 (cntN sz (k + 1) : Int)]) ∧ Below w.heap.size w w' := by
  have hlk := fun w' (hb : Below w.heap.size w w') => shape_links b sz w' (h.below hb)
  have hb0 := h.lt
  obtain ⟨A1, c1, A2, c2, A3, c3, h0, h1, h2, h3⟩ := h
  obtain ⟨n, hn⟩ : ∃ n, sz.length - 1 = n := ⟨_, rfl⟩
  rw [hn] at h0 h2 h3 hk hlk
  have r0 := cell_of_row w _ 0 _ _ _ h0
  have r1 := cell_of_row w _ 1 _ _ _ h0
  have r2 := cell_of_row w _ 2 _ _ _ h0
  have r3 := cell_of_row w _ 3 _ _ _ h0
  have rf := fun j => frozen_of_row w _ j _ _ h0
  obtain ⟨e1, e2⟩ := bVals_at sz hk
  obtain ⟨b2, o2, rfl, p1⟩ := h3 _ _ e1
  obtain ⟨b2', o2', e', p2⟩ := h3 _ _ e2
  injection e' with e'; injection e' with e3 e4 _
  subst e3; subst e4
  rw [show o2 + (k * 2 + 1) = o2 + k * 2 + 1 by omega] at p2
  have hb2 := lt_of_cell p1
  have Hlk := Lib.hid hlk
  have hnl : n ≤ 17592186043904 := by omega
  clear hlk h0 h1 h2 h3 e1 e2 hn hl
  go_enter Tryz.func96, Tryz.ntmps96
  go_wp2_with fail
  refine (Hlk.out _ ?_).mono ?_
  · (focus (repeat' (first | (with_reducible exact Below.refl _ _) | (with_reducible assumption) | (with_reducible refine Below.setCell ?_ ?_ _) | (with_reducible refine Below.alloc ?_ ?_ _) | (with_reducible refine below_drewN ?_ _) | (with_reducible refine Below.drew ?_) | (with_reducible exact Nat.le_refl _) | omega | (simp; done) | (simp; omega))))
  rintro e w' ⟨rfl, rfl⟩
  have hlt : (k : Int) < n := by omega
  go_wp2_with fail
  refine bodyPost_ret (v := .agg #[.int .i64 (midN sz k : Int), .int .i64 (cntN sz (k + 1) : Int)]) (by simp [results, Tryz.results96, go_sem]) rfl ⟨rfl, ?_⟩
  (focus (repeat' (first | (with_reducible exact Below.refl _ _) | (with_reducible assumption) | (with_reducible refine Below.setCell ?_ ?_ _) | (with_reducible refine Below.alloc ?_ ?_ _) | (with_reducible refine below_drewN ?_ _) | (with_reducible refine Below.drew ?_) | (with_reducible exact Nat.le_refl _) | omega | (simp; done) | (simp; omega))))
end Go.Proofs.YtfiojofcafjfeaaGreat
