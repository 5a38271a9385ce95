/- The walks of package shape: what is asked of a shape. -/
import Derived.Test.YtfiojofcafjfeaaProg
import Derived.Test.YtfiojofcafjfeaaShapePlain
import Derived.WalkSpells
import Derived.BigQuiet
import Derived.Deep.QuietTactic
set_option linter.unusedSimpArgs false
set_option linter.unusedVariables false
namespace Go.Proofs.Ytfiojofcafjfeaa
open Go.RowKit

theorem et_ints : ElemT Try.prog 22 3 (.int .i64 0) 1 8 := ⟨Try.underlying22, info_parts (by kernel_rfl), rfl, by decide⟩
theorem iclone_any (A : Option Addr) (zs : List Int) (c : Nat) (w : World) (hA : Rd w A (nums .i64 zs)) (hl : zs.length ≤ 17592186043904) :
    Calls Try.prog 52 #[.slice A zs.length c] w fun e w' => ∃ v, e = .returned v ∧ w'.ownsRow w.heap.size 3 1 v zs.length (nums .i64 zs) ∧ Below w.heap.size w w' := by
  have q := fun (w : World) => Lib.run_eql_slice_nil (P := Try.prog) w 22 3 A zs.length c 0 0 Try.underlying22
  cases A with
  | none =>
    have hz : zs = [] := by
      cases zs with
      | nil => rfl
      | cons z l => obtain ⟨b, o, h, _⟩ := hA 0 _ rfl; cases h
    subst hz
    clear q
    have q := fun (w : World) => Lib.run_eql_slice_nil (P := Try.prog) w 22 3 none 0 c 0 0 Try.underlying22
    simp only [Option.isNone_none] at q
    rw [List.length_nil]
    go_enter Try.func52, Try.ntmps52
    go_wp2
    go_ret
    exact ⟨_, rfl, World.ownsRow_nil _ _ _ _, Below.refl _ _⟩
  | some a =>
    go_enter Try.func52, Try.ntmps52
    go_wp2_with (at_builtin; refine wpList_app et_ints _ rfl (.tmp 5) (.tmp 6) rfl w.heap.size _ 0 [] rfl (own_empty w 3 1) _ zs.length c (nums .i64 zs) rfl (hA.alloc _) (by rw [nums_length]; omega) (nums_cell _ _) (by omega) (by unfold maxLen; omega) (by simp) ?_)
    intro A' c' w1 hown hb _ _
    have hb1 := ((Below.refl _ w).alloc (Nat.le_refl _) (.cells #[] 3)).trans hb
    have Hown := Lib.hid hown; have Hb1 := Lib.hid hb1; clear hown hb hb1
    go_wp2
    go_ret
    exact ⟨_, rfl, Hown.out, Hb1.out⟩

theorem shape_sizes (b : Nat) (sz : List Int) (w : World) (h : ShapeAt 91 w b sz) (hl : sz.length ≤ 17592186043904) :
    Calls Try.prog 42 #[.pointer (some ⟨b, 0, none⟩)] w fun e w' => ∃ A c, e = .returned (.slice A sz.length c) ∧ w'.ownsRow w.heap.size 3 1 (.slice A sz.length c) sz.length (nums .i64 sz) ∧ Below w.heap.size w w' := by
  obtain ⟨A1, c1, A2, c2, A3, c3, h0, h1, h2, h3⟩ := h
  have r0 := cell_of_row w _ 0 _ _ _ h0
  have r1 := cell_of_row w _ 1 _ _ _ h0
  have r2 := cell_of_row w _ 2 _ _ _ h0
  have r3 := cell_of_row w _ 3 _ _ _ h0
  have rf := fun j => frozen_of_row w _ j _ _ h0
  have hc := iclone_any A1 sz c1 w h1 hl
  have Hc := Lib.hid hc; clear hc h0 h1 h2 h3
  go_enter Try.func42, Try.ntmps42
  go_wp2_with fail
  refine Hc.out.mono ?_
  rintro e w1 ⟨v, rfl, hown, hb⟩
  obtain ⟨A', c', rfl, hc'⟩ := own_form hown
  have Hown := Lib.hid hown; have Hb := Lib.hid hb; clear hown hb hc'
  clear r0 r1 r2 r3 rf
  go_wp2
  go_ret
  exact ⟨_, _, rfl, Hown.out, Hb.out⟩

theorem shape_links (b : Nat) (sz : List Int) (w : World) (h : ShapeAt 91 w b sz) :
    Calls Try.prog 30 #[.pointer (some ⟨b, 0, none⟩)] w fun e w' => e = .returned (.int .i64 ((sz.length - 1 : Nat) : Int)) ∧ w = w' := by
  obtain ⟨A1, c1, A2, c2, A3, c3, h0, h1, h2, h3⟩ := h
  have r0 := cell_of_row w _ 0 _ _ _ h0
  have r1 := cell_of_row w _ 1 _ _ _ h0
  have r2 := cell_of_row w _ 2 _ _ _ h0
  have r3 := cell_of_row w _ 3 _ _ _ h0
  have rf := fun j => frozen_of_row w _ j _ _ h0
  clear h0 h1 h2 h3
  go_enter Try.func30, Try.ntmps30
  go_wp2
  go_ret
  exact ⟨rfl, rfl⟩

theorem shape_count (b : Nat) (sz : List Int) (w : World) (h : ShapeAt 91 w b sz) :
    Calls Try.prog 29 #[.pointer (some ⟨b, 0, none⟩)] w fun e w' => e = .returned (.int .i64 (cntN sz (sz.length - 1) : Int)) ∧ w = w' := by
  obtain ⟨A1, c1, A2, c2, A3, c3, h0, h1, h2, h3⟩ := h
  have r0 := cell_of_row w _ 0 _ _ _ h0
  have r1 := cell_of_row w _ 1 _ _ _ h0
  have r2 := cell_of_row w _ 2 _ _ _ h0
  have r3 := cell_of_row w _ 3 _ _ _ h0
  have rf := fun j => frozen_of_row w _ j _ _ h0
  clear h0 h1 h2 h3
  go_enter Try.func29, Try.ntmps29
  go_wp2
  go_ret
  exact ⟨rfl, rfl⟩

set_option maxHeartbeats 400000 in
theorem shape_weights (b : Nat) (sz : List Int) (k : Nat) (w : World) (h : ShapeAt 91 w b sz) (hl : sz.length ≤ 17592186043904) (hk : k < sz.length - 1) :
    Calls Try.prog 31 #[.pointer (some ⟨b, 0, none⟩), .int .i64 k] w fun e w' => e = .returned (.agg #[.int .i64 (cntN sz k : Int), .int .i64 (midN sz k : Int)]) ∧ Below w.heap.size w w' := by
  have hlk := fun w' (hb : Below w.heap.size w w') => shape_links b sz w' (h.below hb)
  have hb0 := h.lt
  obtain ⟨A1, c1, A2, c2, A3, c3, h0, h1, h2, h3⟩ := h
  obtain ⟨n, hn⟩ : ∃ n, sz.length - 1 = n := ⟨_, rfl⟩
  rw [hn] at h0 h2 h3 hk hlk
  have r0 := cell_of_row w _ 0 _ _ _ h0
  have r1 := cell_of_row w _ 1 _ _ _ h0
  have r2 := cell_of_row w _ 2 _ _ _ h0
  have r3 := cell_of_row w _ 3 _ _ _ h0
  have rf := fun j => frozen_of_row w _ j _ _ h0
  obtain ⟨e1, e2⟩ := wVals_at sz hk
  obtain ⟨b2, o2, rfl, p1⟩ := h2 _ _ e1
  obtain ⟨b2', o2', e', p2⟩ := h2 _ _ e2
  injection e' with e'; injection e' with e3 e4 _
  subst e3; subst e4
  rw [show o2 + (k * 2 + 1) = o2 + k * 2 + 1 by omega] at p2
  have hb2 := lt_of_cell p1
  have Hlk := Lib.hid hlk
  have hnl : n ≤ 17592186043904 := by omega
  clear hlk h0 h1 h2 h3 e1 e2 hn hl
  go_enter Try.func31, Try.ntmps31
  go_wp2_with fail
  refine (Hlk.out _ ?_).mono ?_
  · (focus (repeat' (first | (with_reducible exact Below.refl _ _) | (with_reducible assumption) | (with_reducible refine Below.setCell ?_ ?_ _) | (with_reducible refine Below.alloc ?_ ?_ _) | (with_reducible refine below_drewN ?_ _) | (with_reducible refine Below.drew ?_) | (with_reducible exact Nat.le_refl _) | omega | (simp; done) | (simp; omega))))
  rintro e w' ⟨rfl, rfl⟩
  have hlt : (k : Int) < n := by omega
  go_wp2_with fail
  refine bodyPost_ret (v := .agg #[.int .i64 (cntN sz k : Int), .int .i64 (midN sz k : Int)]) (by simp [results, Try.results31, go_sem]) rfl ⟨rfl, ?_⟩
  (focus (repeat' (first | (with_reducible exact Below.refl _ _) | (with_reducible assumption) | (with_reducible refine Below.setCell ?_ ?_ _) | (with_reducible refine Below.alloc ?_ ?_ _) | (with_reducible refine below_drewN ?_ _) | (with_reducible refine Below.drew ?_) | (with_reducible exact Nat.le_refl _) | omega | (simp; done) | (simp; omega))))

set_option maxHeartbeats 400000 in
theorem shape_biases (b : Nat) (sz : List Int) (k : Nat) (w : World) (h : ShapeAt 91 w b sz) (hl : sz.length ≤ 17592186043904) (hk : k < sz.length - 1) :
    Calls Try.prog 32 #[.pointer (some ⟨b, 0, none⟩), .int .i64 k] w fun e w' => e = .returned (.agg #[.int .i64 (midN sz k : Int), .int .i64 (cntN sz (k + 1) : Int)]) ∧ Below w.heap.size w w' := by
  have hlk := fun w' (hb : Below w.heap.size w w') => shape_links b sz w' (h.below hb)
  have hb0 := h.lt
  obtain ⟨A1, c1, A2, c2, A3, c3, h0, h1, h2, h3⟩ := h
  obtain ⟨n, hn⟩ : ∃ n, sz.length - 1 = n := ⟨_, rfl⟩
  rw [hn] at h0 h2 h3 hk hlk
  have r0 := cell_of_row w _ 0 _ _ _ h0
  have r1 := cell_of_row w _ 1 _ _ _ h0
  have r2 := cell_of_row w _ 2 _ _ _ h0
  have r3 := cell_of_row w _ 3 _ _ _ h0
  have rf := fun j => frozen_of_row w _ j _ _ h0
  obtain ⟨e1, e2⟩ := bVals_at sz hk
  obtain ⟨b2, o2, rfl, p1⟩ := h3 _ _ e1
  obtain ⟨b2', o2', e', p2⟩ := h3 _ _ e2
  injection e' with e'; injection e' with e3 e4 _
  subst e3; subst e4
  rw [show o2 + (k * 2 + 1) = o2 + k * 2 + 1 by omega] at p2
  have hb2 := lt_of_cell p1
  have Hlk := Lib.hid hlk
  have hnl : n ≤ 17592186043904 := by omega
  clear hlk h0 h1 h2 h3 e1 e2 hn hl
  go_enter Try.func32, Try.ntmps32
  go_wp2_with fail
  refine (Hlk.out _ ?_).mono ?_
  · (focus (repeat' (first | (with_reducible exact Below.refl _ _) | (with_reducible assumption) | (with_reducible refine Below.setCell ?_ ?_ _) | (with_reducible refine Below.alloc ?_ ?_ _) | (with_reducible refine below_drewN ?_ _) | (with_reducible refine Below.drew ?_) | (with_reducible exact Nat.le_refl _) | omega | (simp; done) | (simp; omega))))
  rintro e w' ⟨rfl, rfl⟩
  have hlt : (k : Int) < n := by omega
  go_wp2_with fail
  refine bodyPost_ret (v := .agg #[.int .i64 (midN sz k : Int), .int .i64 (cntN sz (k + 1) : Int)]) (by simp [results, Try.results32, go_sem]) rfl ⟨rfl, ?_⟩
  (focus (repeat' (first | (with_reducible exact Below.refl _ _) | (with_reducible assumption) | (with_reducible refine Below.setCell ?_ ?_ _) | (with_reducible refine Below.alloc ?_ ?_ _) | (with_reducible refine below_drewN ?_ _) | (with_reducible refine Below.drew ?_) | (with_reducible exact Nat.le_refl _) | omega | (simp; done) | (simp; omega))))
end Go.Proofs.Ytfiojofcafjfeaa
