/- The walks of sakiaref09: the small functions. -/
import Derived.Test.YtfiojofcafjfeaaRef08
import Derived.Test.YtfiojofcafjfeaaRefFix
import Derived.Test.YtfiojofcafjfeaaNetVal
set_option linter.unusedSimpArgs false
set_option linter.unusedVariables false
namespace Go.Proofs.Ytfiojofcafjfeaa
open Go.RowKit

/-- A network of the reference, as a value. -/
def rnetV (As Ap : Option Addr) (sz ps : List Int) (cs cp : Nat) (q : Int) : Value := .agg #[.slice As sz.length cs, .slice Ap ps.length cp, .int .i64 q]
/-- What it says. -/
structure RNet (w : World) (As Ap : Option Addr) (sz ps : List Int) (cs : Nat) : Prop where
  hA : Rd w As (nums .i64 sz)
  hP : Rd w Ap (nums .i64 ps)
  hg : GoodSz sz
  hl : ps.length = cntN sz (sz.length - 1)
  hc : sz.length ≤ cs
  wp : W64 ps
theorem RNet.below {w w' : World} {As Ap : Option Addr} {sz ps : List Int} {cs : Nat} (h : RNet w As Ap sz ps cs) (hb : Below w.heap.size w w') : RNet w' As Ap sz ps cs := ⟨h.hA.below hb, h.hP.below hb, h.hg, h.hl, h.hc, h.wp⟩
theorem RNet.drew {w : World} {As Ap : Option Addr} {sz ps : List Int} {cs : Nat} (h : RNet w As Ap sz ps cs) : RNet w.drew As Ap sz ps cs := ⟨h.hA, h.hP, h.hg, h.hl, h.hc, h.wp⟩

theorem rlast_any (As Ap : Option Addr) (n m cs cp : Nat) (q : Int) (w : World) (hn : 1 ≤ n ∧ n ≤ 1000) : Calls Try.prog 38 #[.agg #[.slice As n cs, .slice Ap m cp, .int .i64 q]] w fun e w' => e = .returned (.int .i64 ((n - 1 : Nat) : Int)) ∧ Below w.heap.size w w' := by
  obtain ⟨h1, h2⟩ := hn
  have hw : IntKind.i64.wrap ((n : Int) - 1) = ((n - 1 : Nat) : Int) := by rw [IntWalk.i64_in _ (by omega)]; omega
  have hw2 : (n : Int) - 1 = ((n - 1 : Nat) : Int) := by omega
  rw [hw2] at hw
  go_enter Try.func38, Try.ntmps38
  go_wp2
  go_ret
  refine ⟨by first | rfl | (rw [hw2]; rfl), ?_⟩
  (focus (repeat' (first | (with_reducible exact Below.refl _ _) | (with_reducible assumption) | (with_reducible refine Below.setCell ?_ ?_ _) | (with_reducible refine Below.alloc ?_ ?_ _) | (with_reducible refine below_drewN ?_ _) | (with_reducible refine Below.drew ?_) | (with_reducible exact Nat.le_refl _) | omega | (simp; done) | (simp; omega))))

theorem rfew9_any (As Ap : Option Addr) (sz : List Int) (m cs cp : Nat) (q : Int) (w : World) (hA : Rd w As (nums .i64 sz)) (hl : sz.length ≤ 17592186043904) (hm : m ≤ 17592186043904) :
    Calls Try.prog 9 #[.agg #[.slice As sz.length cs, .slice Ap m cp, .int .i64 q]] w fun e w' => (∃ v, e = .returned (.bool v) ∧ (v = true → m ≤ 500)) ∧ Below w.heap.size w w' := by
  have hf := fun w' (k : Below w.heap.size w w') => rfew_any As sz cs w' (hA.below k) hl
  have Hf := Lib.hid hf; clear hf hA
  go_enter Try.func9, Try.ntmps9
  go_wp2_with fail
  refine (Hf.out _ ?_).mono ?_
  · (focus (repeat' (first | (with_reducible exact Below.refl _ _) | (with_reducible assumption) | (with_reducible refine Below.setCell ?_ ?_ _) | (with_reducible refine Below.alloc ?_ ?_ _) | (with_reducible refine below_drewN ?_ _) | (with_reducible refine Below.drew ?_) | (with_reducible exact Nat.le_refl _) | omega | (simp; done) | (simp; omega))))
  rintro e w1 ⟨⟨v, rfl⟩, n, rfl⟩
  cases v with
  | false =>
    go_wp2_with fail
    go_ret
    refine ⟨⟨_, rfl, by simp⟩, ?_⟩
    (focus (repeat' (first | (with_reducible exact Below.refl _ _) | (with_reducible assumption) | (with_reducible refine Below.setCell ?_ ?_ _) | (with_reducible refine Below.alloc ?_ ?_ _) | (with_reducible refine below_drewN ?_ _) | (with_reducible refine Below.drew ?_) | (with_reducible exact Nat.le_refl _) | omega | (simp; done) | (simp; omega))))
  | true =>
    by_cases h5 : m ≤ 500
    · go_wp2_with fail
      go_ret
      refine ⟨⟨_, rfl, fun _ => h5⟩, ?_⟩
      (focus (repeat' (first | (with_reducible exact Below.refl _ _) | (with_reducible assumption) | (with_reducible refine Below.setCell ?_ ?_ _) | (with_reducible refine Below.alloc ?_ ?_ _) | (with_reducible refine below_drewN ?_ _) | (with_reducible refine Below.drew ?_) | (with_reducible exact Nat.le_refl _) | omega | (simp; done) | (simp; omega))))
    · go_wp2_with fail
      go_ret
      refine ⟨⟨false, by simp; omega, by simp⟩, ?_⟩
      (focus (repeat' (first | (with_reducible exact Below.refl _ _) | (with_reducible assumption) | (with_reducible refine Below.setCell ?_ ?_ _) | (with_reducible refine Below.alloc ?_ ?_ _) | (with_reducible refine below_drewN ?_ _) | (with_reducible refine Below.drew ?_) | (with_reducible exact Nat.le_refl _) | omega | (simp; done) | (simp; omega))))

set_option maxHeartbeats 400000 in
theorem rweight_any (As Ap : Option Addr) (sz ps : List Int) (cs cp k r c : Nat) (q : Int) (w : World) (h : RNet w As Ap sz ps cs) (hk : k + 1 < sz.length) (hr : r < szN sz (k + 1)) (hc : c < szN sz k) :
    Calls Try.prog 61 #[.agg #[.slice As sz.length cs, .slice Ap ps.length cp, .int .i64 q], .int .i64 k, .int .i64 r, .int .i64 c] w fun e w' => e = .returned (.int .i64 (nth ps (cntN sz k + r * szN sz k + c))) ∧ Below w.heap.size w w' := by
  have hR := h.hg.1
  have hl16 := hR.1.2
  have z0 := hR.at (k := k) (by omega)
  have hmul := h.hg.mul hk
  have hin : cntN sz k + r * szN sz k + c < ps.length := by
    have h1 := midN_eq sz k
    have h2 := cntN_mono sz (show k + 1 ≤ sz.length - 1 by omega)
    have h3 : r * szN sz k + szN sz k ≤ szN sz (k + 1) * szN sz k := by
      have := Nat.mul_le_mul_right (szN sz k) (show r + 1 ≤ szN sz (k + 1) by omega)
      rwa [Nat.succ_mul] at this
    have h4 := h.hl
    unfold midN at h1
    omega
  have hwt := fun w' (hb : Below w.heap.size w w') => rweights_any As sz k cs w' (h.hA.below hb) hR hk h.hc
  have hpl : ps.length ≤ 1048576 := by rw [h.hl]; exact h.hg.2
  obtain ⟨b, o, rfl, p0⟩ := h.hA.num (show k < sz.length by omega)
  obtain ⟨b2, o2, rfl, p2⟩ := h.hP.num hin
  have hrc : r * szN sz k ≤ szN sz (k + 1) * szN sz k := Nat.mul_le_mul_right _ (by omega)
  rw [z0.2.2] at p0
  obtain ⟨a, ha⟩ : ∃ a, szN sz k = a := ⟨_, rfl⟩
  obtain ⟨N, hN⟩ : ∃ N, cntN sz k = N := ⟨_, rfl⟩
  obtain ⟨n, hn⟩ : ∃ n, sz.length = n := ⟨_, rfl⟩
  obtain ⟨m, hm⟩ : ∃ m, ps.length = m := ⟨_, rfl⟩
  rw [ha] at p0 p2 hin hc hrc z0 ⊢
  rw [hN] at p2 hin hwt ⊢
  rw [hn] at hwt hk hl16 ⊢
  rw [hm] at hin hpl ⊢
  obtain ⟨ra, hra⟩ : ∃ ra, r * a = ra := ⟨_, rfl⟩
  rw [hra] at p2 hin hrc ⊢
  have hbl : b < w.heap.size := lt_of_cell p0
  have hbl2 : b2 < w.heap.size := lt_of_cell p2
  have hpp : (r : Int) * (a : Int) = (ra : Int) := by rw [← hra]; push_cast; rfl
  have Hwt := Lib.hid hwt
  clear hwt h hR hmul hrc z0 hn hm hN ha hra hr
  have hw1 : IntKind.i64.wrap ((r : Int) * (a : Int)) = (ra : Int) := by rw [hpp]; exact IntWalk.i64_in _ (by omega)
  have hw2 : IntKind.i64.wrap ((N : Int) + (ra : Int)) = (N : Int) + ra := IntWalk.i64_in _ (by omega)
  have hw3 : IntKind.i64.wrap ((N : Int) + (ra : Int) + (c : Int)) = (N : Int) + ra + c := IntWalk.i64_in _ (by omega)
  have hi1 : (0 : Int) ≤ (N : Int) + ra + c := by omega
  have hi2 : (N : Int) + ra + c < m := by omega
  have hi3 : ((N : Int) + ra + c).toNat = N + ra + c := by omega
  have hi4 : (k : Int) < n := by omega
  have hi5 : k < n := by omega
  have hfd := rrng_lo
  clear hpp
  go_enter Try.func61, Try.ntmps61
  go_wp2_with fail
  go_region_held3 (fun w' => w'.cell? ⟨w.heap.size, 0, none⟩ = some (.slice (some ⟨b, o, none⟩) n cs) ∧ w'.cell? ⟨w.heap.size, 1, none⟩ = some (.slice (some ⟨b2, o2, none⟩) m cp) ∧ w'.cell? ⟨b, o + k, none⟩ = some (.int .i64 a) ∧ w'.cell? ⟨b2, o2 + (N + ra + c), none⟩ = some (.int .i64 (nth ps (N + ra + c)))) (simp [go_sem, World.cell?_alloc_past, *])
    ((go_at_call 72; refine (Hwt.out _ ?_).mono ?_; (focus ((focus (repeat' (first | (with_reducible exact Below.refl _ _) | (with_reducible assumption) | (with_reducible refine Below.setCell ?_ ?_ _) | (with_reducible refine Below.alloc ?_ ?_ _) | (with_reducible refine below_drewN ?_ _) | (with_reducible refine Below.drew ?_) | (with_reducible exact Nat.le_refl _) | omega | (simp; done) | (simp; omega)))); done)); rintro e w1 ⟨rfl, hb1⟩; have hB1 : Below w.heap.size w w1 := Below.trans (by (focus (repeat' (first | (with_reducible exact Below.refl _ _) | (with_reducible assumption) | (with_reducible refine Below.setCell ?_ ?_ _) | (with_reducible refine Below.alloc ?_ ?_ _) | (with_reducible refine below_drewN ?_ _) | (with_reducible refine Below.drew ?_) | (with_reducible exact Nat.le_refl _) | omega | (simp; done) | (simp; omega))))) (hb1.mono (by simp)); have g0 := cell_below hb1 (cell_of_row _ w.heap.size 0 _ _ _ (heap_alloc_new w (.cells #[.slice (some ⟨b, o, none⟩) n cs, .slice (some ⟨b2, o2, none⟩) m cp, .int .i64 q] 25))); have g1 := cell_below hb1 (cell_of_row _ w.heap.size 1 _ _ _ (heap_alloc_new w (.cells #[.slice (some ⟨b, o, none⟩) n cs, .slice (some ⟨b2, o2, none⟩) m cp, .int .i64 q] 25))); have g2 := (hB1.cell (p := ⟨b, o + k, none⟩) hbl).trans p0; have g3 := (hB1.cell (p := ⟨b2, o2 + (N + ra + c), none⟩) hbl2).trans p2; have HB1 := Lib.hid hB1; clear hb1 hB1))
  go_wp2_with fail
  go_ret
  exact ⟨rfl, HB1.out⟩

set_option maxHeartbeats 400000 in
theorem rbias_any (As Ap : Option Addr) (sz ps : List Int) (cs cp k r : Nat) (q : Int) (w : World) (h : RNet w As Ap sz ps cs) (hk : k + 1 < sz.length) (hr : r < szN sz (k + 1)) :
    Calls Try.prog 65 #[.agg #[.slice As sz.length cs, .slice Ap ps.length cp, .int .i64 q], .int .i64 k, .int .i64 r] w fun e w' => e = .returned (.int .i64 (nth ps (midN sz k + r))) ∧ Below w.heap.size w w' := by
  have hR := h.hg.1
  have hl16 := hR.1.2
  have hin : midN sz k + r < ps.length := by
    have h1 := midN_eq sz k
    have h2 := cntN_mono sz (show k + 1 ≤ sz.length - 1 by omega)
    have h4 := h.hl
    omega
  have hbi := fun w' (hb : Below w.heap.size w w') => rbiases_any As sz k cs w' (h.hA.below hb) hR hk h.hc
  have hpl : ps.length ≤ 1048576 := by rw [h.hl]; exact h.hg.2
  obtain ⟨b, o, rfl, p0⟩ := h.hA.num (show k < sz.length by omega)
  obtain ⟨b2, o2, rfl, p2⟩ := h.hP.num hin
  obtain ⟨M, hM⟩ : ∃ M, midN sz k = M := ⟨_, rfl⟩
  obtain ⟨n, hn⟩ : ∃ n, sz.length = n := ⟨_, rfl⟩
  obtain ⟨m, hm⟩ : ∃ m, ps.length = m := ⟨_, rfl⟩
  rw [hM] at p2 hin hbi ⊢
  rw [hn] at hbi hk hl16 ⊢
  rw [hm] at hin hpl ⊢
  have hbl2 : b2 < w.heap.size := lt_of_cell p2
  have Hbi := Lib.hid hbi
  clear hbi h hR hn hm hM hr p0
  have hw2 : IntKind.i64.wrap ((M : Int) + (r : Int)) = (M : Int) + r := IntWalk.i64_in _ (by omega)
  have hi1 : (0 : Int) ≤ (M : Int) + r := by omega
  have hi2 : (M : Int) + r < m := by omega
  have hi3 : ((M : Int) + r).toNat = M + r := by omega
  have hfd := rrng_lo
  go_enter Try.func65, Try.ntmps65
  go_wp2_with fail
  go_region_held3 (fun w' => w'.cell? ⟨w.heap.size, 0, none⟩ = some (.slice (some ⟨b, o, none⟩) n cs) ∧ w'.cell? ⟨w.heap.size, 1, none⟩ = some (.slice (some ⟨b2, o2, none⟩) m cp) ∧ w'.cell? ⟨b2, o2 + (M + r), none⟩ = some (.int .i64 (nth ps (M + r)))) (simp [go_sem, World.cell?_alloc_past, *])
    ((go_at_call 73; refine (Hbi.out _ ?_).mono ?_; (focus ((focus (repeat' (first | (with_reducible exact Below.refl _ _) | (with_reducible assumption) | (with_reducible refine Below.setCell ?_ ?_ _) | (with_reducible refine Below.alloc ?_ ?_ _) | (with_reducible refine below_drewN ?_ _) | (with_reducible refine Below.drew ?_) | (with_reducible exact Nat.le_refl _) | omega | (simp; done) | (simp; omega)))); done)); rintro e w1 ⟨rfl, hb1⟩; have hB1 : Below w.heap.size w w1 := Below.trans (by (focus (repeat' (first | (with_reducible exact Below.refl _ _) | (with_reducible assumption) | (with_reducible refine Below.setCell ?_ ?_ _) | (with_reducible refine Below.alloc ?_ ?_ _) | (with_reducible refine below_drewN ?_ _) | (with_reducible refine Below.drew ?_) | (with_reducible exact Nat.le_refl _) | omega | (simp; done) | (simp; omega))))) (hb1.mono (by simp)); have g0 := cell_below hb1 (cell_of_row _ w.heap.size 0 _ _ _ (heap_alloc_new w (.cells #[.slice (some ⟨b, o, none⟩) n cs, .slice (some ⟨b2, o2, none⟩) m cp, .int .i64 q] 25))); have g1 := cell_below hb1 (cell_of_row _ w.heap.size 1 _ _ _ (heap_alloc_new w (.cells #[.slice (some ⟨b, o, none⟩) n cs, .slice (some ⟨b2, o2, none⟩) m cp, .int .i64 q] 25))); have g3 := (hB1.cell (p := ⟨b2, o2 + (M + r), none⟩) hbl2).trans p2; have HB1 := Lib.hid hB1; clear hb1 hB1))
  go_wp2_with fail
  go_ret
  exact ⟨rfl, HB1.out⟩

/-- The sum of a value, as the reference reckons it. -/
def sumN (sz ps : List Int) (q : Int) (k r : Nat) (v : List Int) : Nat → Int
  | 0 => nth ps (midN sz k + r)
  | c + 1 => wrap64 (sumN sz ps q k r v c + mulQ (nth ps (cntN sz k + r * szN sz k + c)) (nth v c) q)
theorem sumN_bd {ps : List Int} (wp : W64 ps) (sz : List Int) (q : Int) (k r : Nat) (v : List Int) (c : Nat) : -9223372036854775808 ≤ sumN sz ps q k r v c ∧ sumN sz ps q k r v c ≤ 9223372036854775807 := by
  cases c with
  | zero => exact wp.nth _
  | succ c => exact wrap64_bd _

set_option maxHeartbeats 1000000 in
theorem rsum_any (As Ap : Option Addr) (sz ps : List Int) (cs cp k r : Nat) (q : Int) (V : Option Addr) (v : List Int) (cv : Nat) (w : World) (h : RNet w As Ap sz ps cs) (hk : k + 1 < sz.length) (hr : r < szN sz (k + 1)) (hV : Rd w V (nums .i64 v)) (hv : v.length = szN sz k) (wv : W64 v) :
    Calls Try.prog 47 #[.agg #[.slice As sz.length cs, .slice Ap ps.length cp, .int .i64 q], .int .i64 k, .int .i64 r, .slice V v.length cv] w fun e w' => e = .returned (.int .i64 (sumN sz ps q k r v v.length)) ∧ Below w.heap.size w w' := by
  have hbi := fun w' (hb : Below w.heap.size w w') => rbias_any As Ap sz ps cs cp k r q w' (h.below hb) hk hr
  have hwe := fun c (hc : c < szN sz k) w' (hb : Below w.heap.size w w') => rweight_any As Ap sz ps cs cp k r c q w' (h.below hb) hk hr hc
  have hvb : v.length ≤ 1048576 := by rw [hv]; exact (h.hg.1.at (k := k) (by omega)).2.1
  obtain ⟨n, hn⟩ : ∃ n, sz.length = n := ⟨_, rfl⟩
  obtain ⟨m, hm⟩ : ∃ m, ps.length = m := ⟨_, rfl⟩
  obtain ⟨x, hx⟩ : ∃ x, v.length = x := ⟨_, rfl⟩
  rw [hn, hm] at hbi hwe ⊢
  rw [hx] at hvb ⊢
  have Hbi := Lib.hid hbi; have Hwe := Lib.hid hwe; have HV := Lib.hid hV; have Hv := Lib.hid hv; have Hx := Lib.hid hx; have WV := Lib.hid wv; have WP := Lib.hid h.wp
  clear hbi hwe hV hv hx wv h hn hm hr hk
  go_enter Try.func47, Try.ntmps47
  go_wp2_with fail
  refine (Hbi.out _ ?_).mono ?_
  · (focus (repeat' (first | (with_reducible exact Below.refl _ _) | (with_reducible assumption) | (with_reducible refine Below.setCell ?_ ?_ _) | (with_reducible refine Below.alloc ?_ ?_ _) | (with_reducible refine below_drewN ?_ _) | (with_reducible refine Below.drew ?_) | (with_reducible exact Nat.le_refl _) | omega | (simp; done) | (simp; omega))))
  rintro e w1 ⟨rfl, hb1⟩
  have hbx := (hb1.block w.heap.size (by simp)).trans (heap_alloc_new w (.cells #[.slice As n cs, .slice Ap m cp, .int .i64 q] 25))
  have hB1 : Below w.heap.size w w1 := ((Below.refl _ w).alloc (Nat.le_refl _) _).trans (hb1.mono (by simp))
  have Hbx := Lib.hid hbx; have HB1 := Lib.hid hB1; clear hb1 hbx hB1
  go_wp2_with fail
  go_loopw [9, 10] (fun s i wr => ∃ c : Nat, c ≤ x ∧ i = .int .i64 c ∧ s = .int .i64 (sumN sz ps q k r v c) ∧ wr.heap[w.heap.size]? = some (.cells #[.slice As n cs, .slice Ap m cp, .int .i64 q] 25 (0, 0)) ∧ Below w.heap.size w wr) (fun _ i _ => x - (intOf i).toNat)
  case atStart => exact ⟨0, Nat.zero_le _, rfl, rfl, Hbx.out, HB1.out⟩
  case round =>
    obtain ⟨c, hc, rfl, rfl, hbx, hW⟩ := hrel
    by_cases hlt : c < x
    · obtain ⟨bv, ov, rfl, pv⟩ := HV.out.num (show c < v.length by rw [Hx.out]; exact hlt)
      have hbv : bv < w.heap.size := lt_of_cell pv
      have pvr := (hW.cell (p := ⟨bv, ov + c, none⟩) hbv).trans pv
      have x0 := cell_of_row wr _ 0 _ _ _ hbx
      have x1 := cell_of_row wr _ 1 _ _ _ hbx
      have x2 := cell_of_row wr _ 2 _ _ _ hbx
      have xf := fun j => frozen_of_row wr _ j _ _ hbx
      have hbxl := lt_of_block hbx
      have hbvr : bv < wr.heap.size := by have := hW.size; omega
      have hwe := Hwe.out c (by have := Hv.out; have := Hx.out; omega)
      have hmu := fun w' => refMul (nth ps (cntN sz k + r * szN sz k + c)) (nth v c) q w' (WP.out.nth _) (WV.out.nth _)
      have Hwk := Lib.hid hwe; have Hmu := Lib.hid hmu; have HW := Lib.hid hW; have Hbx := Lib.hid hbx
      clear hwe hmu hW hbx pv
      have hci : (c : Int) < x := by omega
      go_wp2_with fail
      go_region_held3 (fun w' => w'.cell? ⟨w.heap.size, 0, none⟩ = some (.slice As n cs) ∧ w'.cell? ⟨w.heap.size, 1, none⟩ = some (.slice Ap m cp) ∧ w'.cell? ⟨w.heap.size, 2, none⟩ = some (.int .i64 q) ∧ w'.cell? ⟨bv, ov + c, none⟩ = some (.int .i64 (nth v c))) (simp [go_sem, *])
        ((first | (go_at_call 61; refine (Hwk.out wr.drew HW.out.drew).mono ?_; rintro e w3 ⟨rfl, hb3⟩; have g0 := cell_below hb3 x0; have g1 := cell_below hb3 x1; have g2 := cell_below hb3 x2; have g3 := cell_below hb3 pvr; have hb30 := (hb3.block w.heap.size hbxl).trans Hbx.out; have hB3 := HW.out.trans (((Below.refl wr.heap.size wr).drew.trans hb3).mono HW.out.size); have Hb30 := Lib.hid hb30; have HB3 := Lib.hid hB3; clear hb3 hb30 hB3) | (go_at_call 40; refine (Hmu.out _).mono ?_; rintro e w4 ⟨rfl, rfl⟩)))
      go_wp2_with fail
      go_roundw
      case rel => exact ⟨c + 1, by omega, by go_num, by rw [IntKind.wrap_i64, sumN, wrap64], Hb30.out, HB3.out⟩
      case measure => simp [intOf]; omega
    · obtain rfl : c = x := by omega
      have HW := Lib.hid hW; clear hW hbx
      go_wp2_with fail
      go_ret
      exact ⟨rfl, HW.out⟩

/-- What a network of the reference must meet. -/
def RightN (sz ps : List Int) (q : Int) : Prop := GoodSz sz ∧ 0 ≤ q ∧ q ≤ 62 ∧ ps.length = cntN sz (sz.length - 1)
set_option maxHeartbeats 400000 in
theorem rright_any (As Ap : Option Addr) (sz ps : List Int) (cs cp : Nat) (q : Int) (w : World) (hA : Rd w As (nums .i64 sz)) (hls : sz.length ≤ 17592186043904) (hlp : ps.length ≤ 17592186043904) :
    Calls Try.prog 10 #[.agg #[.slice As sz.length cs, .slice Ap ps.length cp, .int .i64 q]] w fun e w' => ((RightN sz ps q ∧ e = .returned (.bool true)) ∨ (¬ RightN sz ps q ∧ e = .returned (.bool false))) ∧ Below w.heap.size w w' := by
  by_cases hg : GoodSz sz
  · have hck := fun w' (k : Below w.heap.size w w') => (rcheck_any As sz cs w' (hA.below k) hls).mono (fun (e : Ending) w2 ⟨⟨v, h1, h2, _⟩, h3⟩ => show e = Ending.returned (.int .i64 0) ∧ ∃ n, w2 = w'.drewN n from ⟨by rw [h1, h2.2 hg], h3⟩)
    have hct := fun w' (k : Below w.heap.size w w') => rcount_any As sz sz.length cs w' (hA.below k) hg.1 (by have := hg.1.1; omega) (Nat.le_refl _)
    have hcb := hg.2
    obtain ⟨n, hn⟩ : ∃ n, sz.length = n := ⟨_, rfl⟩
    obtain ⟨m, hm⟩ : ∃ m, ps.length = m := ⟨_, rfl⟩
    have hrn : RightN sz ps q ↔ 0 ≤ q ∧ q ≤ 62 ∧ m = cntN sz (n - 1) := by unfold RightN; rw [hn, hm]; exact ⟨fun h => h.2, fun h => ⟨hg, h⟩⟩
    obtain ⟨N, hN⟩ : ∃ N, cntN sz (n - 1) = N := ⟨_, rfl⟩
    rw [hn] at hck hct hcb ⊢
    rw [hm] at hlp ⊢
    rw [hN] at hct hcb hrn
    have Hck := Lib.hid hck; have Hct := Lib.hid hct; have Hrn := Lib.hid hrn
    clear hck hct hrn hA hn hm hN hg hls
    by_cases h1 : q < 0
    · have hd : decide (0 ≤ q) = false := decide_eq_false (by omega)
      have Hno := Lib.hid (show ¬ RightN sz ps q from fun h => by have := Hrn.out.1 h; omega)
      go_enter Try.func10, Try.ntmps10
      go_wp2_with fail
      go_quiet ((go_at_call 24; refine Calls.quiet_of (Hck.out _ ?_); (focus (repeat' (first | (with_reducible exact Below.refl _ _) | (with_reducible assumption) | (with_reducible refine Below.setCell ?_ ?_ _) | (with_reducible refine Below.alloc ?_ ?_ _) | (with_reducible refine below_drewN ?_ _) | (with_reducible refine Below.drew ?_) | (with_reducible exact Nat.le_refl _) | omega | (simp; done) | (simp; omega))))))
      go_wp2_with fail
      go_ret
      refine ⟨.inr ⟨Hno.out, ret_bool (by simp [h1])⟩, ?_⟩
      (focus (repeat' (first | (with_reducible exact Below.refl _ _) | (with_reducible assumption) | (with_reducible refine Below.setCell ?_ ?_ _) | (with_reducible refine Below.alloc ?_ ?_ _) | (with_reducible refine below_drewN ?_ _) | (with_reducible refine Below.drew ?_) | (with_reducible exact Nat.le_refl _) | omega | (simp; done) | (simp; omega))))
    · have hq0 : 0 ≤ q := by omega
      by_cases h2 : 62 < q
      · have hd : decide (q ≤ 62) = false := decide_eq_false (by omega)
        have Hno := Lib.hid (show ¬ RightN sz ps q from fun h => by have := Hrn.out.1 h; omega)
        go_enter Try.func10, Try.ntmps10
        go_wp2_with fail
        go_quiet ((go_at_call 24; refine Calls.quiet_of (Hck.out _ ?_); (focus (repeat' (first | (with_reducible exact Below.refl _ _) | (with_reducible assumption) | (with_reducible refine Below.setCell ?_ ?_ _) | (with_reducible refine Below.alloc ?_ ?_ _) | (with_reducible refine below_drewN ?_ _) | (with_reducible refine Below.drew ?_) | (with_reducible exact Nat.le_refl _) | omega | (simp; done) | (simp; omega))))))
        go_wp2_with fail
        go_ret
        refine ⟨.inr ⟨Hno.out, ret_bool (by simp [h2])⟩, ?_⟩
        (focus (repeat' (first | (with_reducible exact Below.refl _ _) | (with_reducible assumption) | (with_reducible refine Below.setCell ?_ ?_ _) | (with_reducible refine Below.alloc ?_ ?_ _) | (with_reducible refine below_drewN ?_ _) | (with_reducible refine Below.drew ?_) | (with_reducible exact Nat.le_refl _) | omega | (simp; done) | (simp; omega))))
      · have hq2 : q ≤ 62 := by omega
        by_cases h3 : m = N
        · have hd : ((m : Int) == (N : Int)) = true := by simp [h3]
          have Hyes := Lib.hid (show RightN sz ps q from Hrn.out.2 ⟨hq0, hq2, h3⟩)
          clear h3
          go_enter Try.func10, Try.ntmps10
          go_wp2_with fail
          go_quiet ((first | ((go_at_call 24; refine Calls.quiet_of (Hck.out _ ?_); (focus (repeat' (first | (with_reducible exact Below.refl _ _) | (with_reducible assumption) | (with_reducible refine Below.setCell ?_ ?_ _) | (with_reducible refine Below.alloc ?_ ?_ _) | (with_reducible refine below_drewN ?_ _) | (with_reducible refine Below.drew ?_) | (with_reducible exact Nat.le_refl _) | omega | (simp; done) | (simp; omega)))))) | ((go_at_call 25; refine Calls.quiet_of (Hct.out _ ?_); (focus (repeat' (first | (with_reducible exact Below.refl _ _) | (with_reducible assumption) | (with_reducible refine Below.setCell ?_ ?_ _) | (with_reducible refine Below.alloc ?_ ?_ _) | (with_reducible refine below_drewN ?_ _) | (with_reducible refine Below.drew ?_) | (with_reducible exact Nat.le_refl _) | omega | (simp; done) | (simp; omega))))))))
          go_wp2_with fail
          go_ret
          refine ⟨.inl ⟨Hyes.out, ret_bool (by simp [hd])⟩, ?_⟩
          (focus (repeat' (first | (with_reducible exact Below.refl _ _) | (with_reducible assumption) | (with_reducible refine Below.setCell ?_ ?_ _) | (with_reducible refine Below.alloc ?_ ?_ _) | (with_reducible refine below_drewN ?_ _) | (with_reducible refine Below.drew ?_) | (with_reducible exact Nat.le_refl _) | omega | (simp; done) | (simp; omega))))
        · have hd : ((m : Int) == (N : Int)) = false := by simp; omega
          have Hno := Lib.hid (show ¬ RightN sz ps q from fun h => by have := Hrn.out.1 h; omega)
          clear h3
          go_enter Try.func10, Try.ntmps10
          go_wp2_with fail
          go_quiet ((first | ((go_at_call 24; refine Calls.quiet_of (Hck.out _ ?_); (focus (repeat' (first | (with_reducible exact Below.refl _ _) | (with_reducible assumption) | (with_reducible refine Below.setCell ?_ ?_ _) | (with_reducible refine Below.alloc ?_ ?_ _) | (with_reducible refine below_drewN ?_ _) | (with_reducible refine Below.drew ?_) | (with_reducible exact Nat.le_refl _) | omega | (simp; done) | (simp; omega)))))) | ((go_at_call 25; refine Calls.quiet_of (Hct.out _ ?_); (focus (repeat' (first | (with_reducible exact Below.refl _ _) | (with_reducible assumption) | (with_reducible refine Below.setCell ?_ ?_ _) | (with_reducible refine Below.alloc ?_ ?_ _) | (with_reducible refine below_drewN ?_ _) | (with_reducible refine Below.drew ?_) | (with_reducible exact Nat.le_refl _) | omega | (simp; done) | (simp; omega))))))))
          go_wp2_with fail
          go_ret
          refine ⟨.inr ⟨Hno.out, ret_bool (by simp [hd])⟩, ?_⟩
          (focus (repeat' (first | (with_reducible exact Below.refl _ _) | (with_reducible assumption) | (with_reducible refine Below.setCell ?_ ?_ _) | (with_reducible refine Below.alloc ?_ ?_ _) | (with_reducible refine below_drewN ?_ _) | (with_reducible refine Below.drew ?_) | (with_reducible exact Nat.le_refl _) | omega | (simp; done) | (simp; omega))))
  · have hcv : ∃ v : Int, (v == 0) = false ∧ ∀ w', Below w.heap.size w w' → Calls Try.prog 24 #[.slice As sz.length cs] w' fun e w2 => e = .returned (.int .i64 v) ∧ ∃ n, w2 = w'.drewN n := by
      by_cases hlen : 2 ≤ sz.length ∧ sz.length ≤ 16
      · by_cases hR : RightSz sz
        · refine ⟨codeN sz, ?_, fun w' k => (rcheck_long As sz cs w' (hA.below k) hlen).mono fun e w2 ⟨h1, h2⟩ => ⟨?_, h2⟩⟩
          · unfold codeN
            rw [if_pos (by have : ¬ cntN sz (sz.length - 1) ≤ 1048576 := fun h => hg ⟨hR, h⟩; omega)]
            rfl
          · rcases h1 with ⟨_, h⟩ | ⟨h, _⟩
            · exact h
            · exact absurd hR h
        · refine ⟨5, rfl, fun w' k => (rcheck_long As sz cs w' (hA.below k) hlen).mono fun e w2 ⟨h1, h2⟩ => ⟨?_, h2⟩⟩
          rcases h1 with ⟨h, _⟩ | ⟨_, h⟩
          · exact absurd h hR
          · exact h
      · exact ⟨5, rfl, fun w' k => (rcheck_short As sz cs w' hls hlen).mono fun e w2 ⟨h1, h2⟩ => ⟨h1, 0, h2.symm⟩⟩
    obtain ⟨v, hv0, hck⟩ := hcv
    have Hno := Lib.hid (show ¬ RightN sz ps q from fun h => hg h.1)
    obtain ⟨n, hn⟩ : ∃ n, sz.length = n := ⟨_, rfl⟩
    obtain ⟨m, hm⟩ : ∃ m, ps.length = m := ⟨_, rfl⟩
    rw [hn] at hck ⊢
    rw [hm] at ⊢
    have Hck := Lib.hid hck
    clear hck hA hn hm hg hls hlp
    go_enter Try.func10, Try.ntmps10
    go_wp2_with fail
    go_quiet ((go_at_call 24; refine Calls.quiet_of (Hck.out _ ?_); (focus (repeat' (first | (with_reducible exact Below.refl _ _) | (with_reducible assumption) | (with_reducible refine Below.setCell ?_ ?_ _) | (with_reducible refine Below.alloc ?_ ?_ _) | (with_reducible refine below_drewN ?_ _) | (with_reducible refine Below.drew ?_) | (with_reducible exact Nat.le_refl _) | omega | (simp; done) | (simp; omega))))))
    go_wp2_with fail
    go_ret
    refine ⟨.inr ⟨Hno.out, ret_bool (by simp [hv0])⟩, ?_⟩
    (focus (repeat' (first | (with_reducible exact Below.refl _ _) | (with_reducible assumption) | (with_reducible refine Below.setCell ?_ ?_ _) | (with_reducible refine Below.alloc ?_ ?_ _) | (with_reducible refine below_drewN ?_ _) | (with_reducible refine Below.drew ?_) | (with_reducible exact Nat.le_refl _) | omega | (simp; done) | (simp; omega))))
end Go.Proofs.Ytfiojofcafjfeaa
