/- mat.New. -/
import Derived.Test.YtfiojofcafjfeaaMat
set_option linter.unusedSimpArgs false
set_option linter.unusedVariables false
namespace Go.Proofs.Ytfiojofcafjfeaa
open Go.RowKit

theorem box3_set {w : World} {b : Nat} {x0 x1 x2 : Value} {t : TypeId} (y0 y1 y2 : Value) (h : w.heap[b]? = some (.cells #[x0, x1, x2] t (0, 0))) :
    (((w.setCell ⟨b, 0, none⟩ y0).setCell ⟨b, 1, none⟩ y1).setCell ⟨b, 2, none⟩ y2).heap[b]? = some (.cells #[y0, y1, y2] t (0, 0)) := by
  have h1 := heap_setCell_same w b 0 _ _ y0 h
  have h2 := heap_setCell_same _ b 1 _ _ y1 h1
  exact heap_setCell_same _ b 2 _ _ y2 h2
theorem box3_keep {w : World} {b : Nat} (y0 y1 y2 : Value) : Keep (fun i => i = b) w (((w.setCell ⟨b, 0, none⟩ y0).setCell ⟨b, 1, none⟩ y1).setCell ⟨b, 2, none⟩ y2) :=
  Keep.setCell (S := fun i => i = b) (Keep.setCell (S := fun i => i = b) (Keep.setCell (S := fun i => i = b) (Keep.refl _ w) ⟨b, 0, none⟩ (.inr rfl) y0) ⟨b, 1, none⟩ (.inr rfl) y1) ⟨b, 2, none⟩ (.inr rfl) y2

theorem mnew_any (r c : Nat) (w : World) (hr : 1 ≤ r ∧ r ≤ 1048576) (hc : 1 ≤ c ∧ c ≤ 1048576) (hm : r * c ≤ 1048576) :
    Calls Try.prog 56 #[.int .i64 r, .int .i64 c] w fun e w' => ∃ A, e = .returned (.agg #[.int .i64 r, .int .i64 c, .slice A (r * c) (r * c)]) ∧ w'.ownsRow w.heap.size 2 1 (.slice A (r * c) (r * c)) (r * c) (nums .i64 (List.replicate (r * c) 0)) ∧ Below w.heap.size w w' := by
  have e1 : (r : Int) * (c : Int) = ((r * c : Nat) : Int) := (Int.natCast_mul r c).symm
  have hs := fun w' => sides_any r c w' ⟨by omega, by omega⟩ ⟨by omega, by omega⟩
  obtain ⟨p, hp⟩ : ∃ p, r * c = p := ⟨_, rfl⟩
  rw [hp] at e1 hm ⊢
  clear hp
  have hmk : (8 : Nat) * p ≤ 281474976710656 := by omega
  have Hmk := Lib.hid hmk; have Hs := Lib.hid hs; clear hmk hs
  go_enter Try.func56, Try.ntmps56
  go_wp2_with fail
  refine (Hs.out _).mono ?_
  rintro e w1 ⟨rfl, hw1⟩
  subst hw1
  go_wp2_with (at_make; refine wpList_mk et_vec _ rfl (.tmp 20) (.tmp 20) rfl rfl p rfl rfl Hmk.out (by unfold maxLen; omega) ?_)
  intro w2 hown hb
  rw [nums_rep] at hown
  have hres := (hb.block w.heap.size (by simp)).trans (heap_alloc_new w _)
  have r0 := cell_of_row w2 _ 0 _ _ _ hres
  have r1 := cell_of_row w2 _ 1 _ _ _ hres
  have r2 := cell_of_row w2 _ 2 _ _ _ hres
  have rf := fun j => frozen_of_row w2 _ j _ _ hres
  have hs1 : w.heap.size < w2.heap.size := lt_of_block hres
  have HO := Lib.hid hown; have HB := Lib.hid hb; have HR := Lib.hid hres; clear hown hb hres
  go_wp2_with fail
  have h3 := box3_set (.int .i64 r) (.int .i64 c) (.slice (some ⟨w.heap.size + 1, 0, none⟩) p p) HR.out
  have k3 := box3_keep (w := w2) (b := w.heap.size) (.int .i64 r) (.int .i64 c) (.slice (some ⟨w.heap.size + 1, 0, none⟩) p p)
  obtain ⟨w3, hw3⟩ : ∃ w3, w3 = (((w2.setCell ⟨w.heap.size, 0, none⟩ (.int .i64 r)).setCell ⟨w.heap.size, 1, none⟩ (.int .i64 c)).setCell ⟨w.heap.size, 2, none⟩ (.slice (some ⟨w.heap.size + 1, 0, none⟩) p p)) := ⟨_, rfl⟩
  rw [← hw3] at h3 k3 ⊢
  clear hw3 r0 r1 r2 rf
  have q0 := cell_of_row w3 _ 0 _ _ _ h3
  have q1 := cell_of_row w3 _ 1 _ _ _ h3
  have q2 := cell_of_row w3 _ 2 _ _ _ h3
  have qf := fun j => frozen_of_row w3 _ j _ _ h3
  refine bodyPost_ret (v := .agg #[.int .i64 r, .int .i64 c, .slice (some ⟨w.heap.size + 1, 0, none⟩) p p]) (by simp [results, Try.results56, go_sem, q0, q1, q2]) rfl ⟨_, rfl, ?_, ?_⟩
  · refine own_base (base := w.heap.size + 1) (k3.own HO.out (fun k hk e => ?_)) (by omega)
    simp [Value.ownBlock] at hk
    omega
  · exact (Below.trans ((Below.refl _ w).alloc (Nat.le_refl _) _) (HB.out.mono (by simp))).trans (k3.toBelow (by omega) (fun k hk => by omega))
end Go.Proofs.Ytfiojofcafjfeaa
