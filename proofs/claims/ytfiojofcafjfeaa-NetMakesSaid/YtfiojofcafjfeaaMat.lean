/- The walks of package mat: the small functions. -/
import Derived.Test.YtfiojofcafjfeaaVec
import Derived.StillTailTactics
set_option linter.unusedSimpArgs false
set_option linter.unusedVariables false
namespace Go.Proofs.Ytfiojofcafjfeaa
open Go.RowKit

theorem sides_any (r c : Int) (w : World) (hr : 1 ≤ r ∧ r ≤ 1048576) (hc : 1 ≤ c ∧ c ≤ 1048576) : Calls Try.prog 67 #[.int .i64 r, .int .i64 c] w fun e w' => e = .returned (.bool true) ∧ w = w' := by
  obtain ⟨h1, h2⟩ := hr
  obtain ⟨h3, h4⟩ := hc
  go_enter Try.func67, Try.ntmps67
  go_wp2
  go_ret
  exact ⟨ret_bool (by simp [*]), rfl⟩

theorem right_any (r c : Nat) (A : Option Addr) (n d : Nat) (w : World) (hr : 1 ≤ r ∧ r ≤ 1048576) (hc : 1 ≤ c ∧ c ≤ 1048576) (hn : n = r * c) (hm : n ≤ 17592186043904) :
    Calls Try.prog 57 #[.agg #[.int .i64 r, .int .i64 c, .slice A n d]] w fun e w' => e = .returned (.bool true) ∧ w' = w.alloc (.cells #[.int .i64 r, .int .i64 c, .slice A n d] 66) := by
  have hs := fun w' => sides_any r c w' (by omega) (by omega)
  have hmul : (r : Int) * (c : Int) = (n : Int) := by rw [hn]; simp
  have hm1 : 0 ≤ (r : Int) * (c : Int) ∧ (r : Int) * (c : Int) ≤ 17592186043904 := by omega
  have hq : ((n : Int) == IntKind.i64.wrap ((r : Int) * (c : Int))) = true := by rw [IntWalk.i64_in _ (by omega), hmul]; simp
  have hq2 : ((n : Int) == (r : Int) * (c : Int)) = true := by rw [hmul]; simp
  have Hs := Lib.hid hs; clear hs hmul hn
  go_enter Try.func57, Try.ntmps57
  go_wp2_with fail
  refine (Hs.out _).mono ?_
  rintro e w1 ⟨rfl, rfl⟩
  go_wp2_with fail
  all_goals
    go_ret
    exact ⟨ret_bool (by first | rfl | simp [*]), rfl⟩

theorem of_any (r c : Nat) (A : Option Addr) (zs : List Int) (d : Nat) (w : World) (hr : 1 ≤ r ∧ r ≤ 1048576) (hc : 1 ≤ c ∧ c ≤ 1048576) (hn : zs.length = r * c) (hm : zs.length ≤ 17592186043904) (hA : Rd w A (nums .i64 zs)) :
    Calls Try.prog 54 #[.int .i64 r, .int .i64 c, .slice A zs.length d] w fun e w' => ∃ A' d', e = .returned (.tuple #[.agg #[.int .i64 r, .int .i64 c, .slice A' zs.length d'], .bool true]) ∧ zs.length ≤ d' ∧ w'.ownsRow w.heap.size 2 1 (.slice A' zs.length d') zs.length (nums .i64 zs) ∧ Below w.heap.size w w' := by
  have hcl := fun w' (k : Below w.heap.size w w') => vclone_any A zs d w' (hA.below k) hm
  obtain ⟨n, hnn⟩ : ∃ n, zs.length = n := ⟨_, rfl⟩
  rw [hnn] at hcl hn hm ⊢
  have hrt := fun A' d' w' => right_any r c A' n d' w' hr hc hn hm
  have Hc := Lib.hid hcl; have Hr := Lib.hid hrt; clear hcl hrt hnn hA hn
  go_enter Try.func54, Try.ntmps54
  go_wp2_with fail
  refine (Hc.out _ ?_).mono ?_
  · (focus (repeat' (first | (with_reducible exact Below.refl _ _) | (with_reducible assumption) | (with_reducible refine Below.setCell ?_ ?_ _) | (with_reducible refine Below.alloc ?_ ?_ _) | (with_reducible refine below_drewN ?_ _) | (with_reducible refine Below.drew ?_) | (with_reducible exact Nat.le_refl _) | omega | (simp; done) | (simp; omega))))
  rintro e w1 ⟨A', d', rfl, hd, hown, hb⟩
  have hres := (hb.block w.heap.size (by simp)).trans (heap_alloc_new w _)
  have r0 := cell_of_row w1 _ 0 _ _ _ hres
  have r1 := cell_of_row w1 _ 1 _ _ _ hres
  have r2 := cell_of_row w1 _ 2 _ _ _ hres
  have rf := fun j => frozen_of_row w1 _ j _ _ hres
  have hs1 : w.heap.size < w1.heap.size := lt_of_block hres
  have HO := Lib.hid (own_base hown (base' := w.heap.size) (by simp)); have HD := Lib.hid hd; have HW := Lib.hid (Below.trans ((Below.refl _ w).alloc (Nat.le_refl _) _) (hb.mono (by simp))); have Hob := Lib.hid hown; clear hown hd hb hres
  go_wp2_with fail
  refine (Hr.out _ _ _).mono ?_
  rintro e w2 ⟨rfl, rfl⟩
  go_wp2_with fail
  refine bodyPost_ret (v := .tuple #[.agg #[.int .i64 r, .int .i64 c, .slice A' n d'], .bool true]) (by simp [results, Try.results54, go_sem, r0, r1, r2, hs1]) rfl ⟨A', d', rfl, HD.out, ?_, ?_⟩
  · refine own_base (Keep.own (S := fun i => i = w.heap.size) (w := w1) ?_ Hob.out (fun k hk e => by have := (Hob.out.lt k hk).1; simp at this; omega)) (by simp)
    (focus (repeat' (first | (with_reducible exact Keep.refl _ _) | (with_reducible assumption) | (with_reducible refine Keep.setCell ?_ _ ?_ _) | (with_reducible refine Keep.alloc ?_ _) | (with_reducible refine Keep.drewN ?_ _) | (with_reducible refine Keep.drew ?_) | (with_reducible exact Or.inr (linkS_b _ _)) | (with_reducible exact Or.inr (linkS_g _ _)) | (refine Or.inr ?_; first | rfl | (simp; done) | omega) | (refine Or.inl ?_; first | omega | (simp; done) | (simp; omega)))))
  · have hW := HW.out
    (focus (repeat' (first | (with_reducible exact Below.refl _ _) | (with_reducible assumption) | (with_reducible refine Below.setCell ?_ ?_ _) | (with_reducible refine Below.alloc ?_ ?_ _) | (with_reducible refine below_drewN ?_ _) | (with_reducible refine Below.drew ?_) | (with_reducible exact Nat.le_refl _) | omega | (simp; done) | (simp; omega))))

/-- A row of a matrix: where it lies. -/
theorem row_any (r c k : Nat) (g o n d : Nat) (w : World) (hr : r ≤ 1048576) (hc : 1 ≤ c ∧ c ≤ 1048576) (hk : k < r) (hn : n = r * c) (hd : n ≤ d) :
    Calls Try.prog 69 #[.agg #[.int .i64 r, .int .i64 c, .slice (some ⟨g, o, none⟩) n d], .int .i64 k] w fun e w' => e = .returned (.slice (some ⟨g, o + k * c, none⟩) c c) ∧ Below w.heap.size w w' := by
  have h1 : k * c + c ≤ n := by rw [hn]; have := Nat.mul_le_mul_right c (show k + 1 ≤ r by omega); rw [Nat.succ_mul] at this; exact this
  have h2 : k * c ≤ 1048576 * 1048576 := Nat.mul_le_mul (by omega) (by omega)
  have e1 : (k : Int) * (c : Int) = ((k * c : Nat) : Int) := (Int.natCast_mul k c).symm
  have e2 : ((k : Int) + 1) * (c : Int) = ((k * c + c : Nat) : Int) := by rw [Int.add_mul, e1]; simp
  obtain ⟨p, hp⟩ : ∃ p, k * c = p := ⟨_, rfl⟩
  rw [hp] at h1 h2 e1 e2 ⊢
  clear hp hn
  go_enter Try.func69, Try.ntmps69
  go_wp2_with fail
  go_quiet (fail)
  have hx1 : ¬ (p + c = p) := by omega
  go_wp2
  rw [show p + c - p = c by omega]
  go_ret
  refine ⟨rfl, ?_⟩
  (focus (repeat' (first | (with_reducible exact Below.refl _ _) | (with_reducible assumption) | (with_reducible refine Below.setCell ?_ ?_ _) | (with_reducible refine Below.alloc ?_ ?_ _) | (with_reducible refine below_drewN ?_ _) | (with_reducible refine Below.drew ?_) | (with_reducible exact Nat.le_refl _) | omega | (simp; done) | (simp; omega))))

theorem rows_any (cs : Array Value) (w : World) : Calls Try.prog 58 #[.agg cs] w fun e w' => e = .returned (.func (.func 68) #[] #[.pointer (some ⟨w.heap.size, 0, none⟩)]) ∧ w' = w.alloc (.cells cs 66) := by
  go_enter Try.func58, Try.ntmps58
  go_wp2
  go_ret
  exact ⟨rfl, rfl⟩
end Go.Proofs.Ytfiojofcafjfeaa
