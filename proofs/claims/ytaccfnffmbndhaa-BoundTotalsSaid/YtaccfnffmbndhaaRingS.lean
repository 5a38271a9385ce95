/- ring.Segment. -/
import Derived.Test.YtaccfnffmbndhaaRing
set_option linter.unusedSimpArgs false
set_option linter.unusedVariables false
namespace Go.Proofs.Ytaccfnffmbndhaa
open Go.RowKit

theorem idx_zero (w : World) (f g : Fn) : (Instr.index 111 (.agg #[.func f #[] #[], .func g #[] #[]]) (.int .i64 0)).run Try.prog w = .ok (.func f #[] #[]) w := by
  simp [Instr.index, run_underlying Try.underlying111, asIntOf, go_sem]
theorem idx_one (w : World) (f g : Fn) : (Instr.index 111 (.agg #[.func f #[] #[], .func g #[] #[]]) (.int .i64 1)).run Try.prog w = .ok (.func g #[] #[]) w := by
  simp [Instr.index, run_underlying Try.underlying111, asIntOf, go_sem]
attribute [local go_sem] idx_zero idx_one
set_option maxRecDepth 100000 in
theorem segO_any (st bk lo hi W c x ph r : Nat) (w : World) (h1 : 1 ≤ W) (h2 : W ≤ 1048576) (hx : x < W) (hp : ph < 2) (hr : r + 1 < W) :
    Calls Try.prog 54 #[.agg #[.int .i64 (st : Nat), .int .i64 (bk : Nat), .int .i64 (lo : Nat), .int .i64 (hi : Nat), .int .i64 (W : Nat), .int .i64 (c : Nat)], .int .i64 x, .int .i64 ph, .int .i64 r, .bool true] w fun e w' => e = .returned (.tuple #[.int .i64 (segOut W x ph r : Nat), .bool true]) ∧ Below w.heap.size w w' := by
  have g1 : (x : Int) < W := by omega
  have g2 : (r : Int) < (W : Int) - 1 := by omega
  have hs := segOut_int (W := W) (x := x) (ph := ph) (r := r) (by omega) _ rfl
  obtain rfl | rfl : ph = 0 ∨ ph = 1 := by omega
  · have ha := fun w' => scatter_any st bk lo hi W c x r w' h1 h2 hx (by omega)
    rw [show ((x : Int) + (0 : Nat) - r) = (x : Int) - r by omega] at hs
    rw [hs] at ha
    have Ha := Lib.hid ha
    clear ha hs
    go_enter Try.func54, Try.ntmps54
    go_wp2_with fail
    refine (Ha.out _).mono ?_
    rintro e w1 ⟨rfl, k1⟩
    have hB : Below w.heap.size w w1 := ((br w).alloc (Nat.le_refl _) _).trans (k1.mono (by simp))
    clear k1
    go_wp2_with fail
    go_ret2
    exact ⟨rfl, hB⟩
  · have ha := fun w' => gather_any st bk lo hi W c x r w' h1 h2 hx (by omega)
    rw [show ((x : Int) + (1 : Nat) - r) = (x : Int) + 1 - r by omega] at hs
    rw [hs] at ha
    have Ha := Lib.hid ha
    clear ha hs
    go_enter Try.func54, Try.ntmps54
    go_wp2_with fail
    refine (Ha.out _).mono ?_
    rintro e w1 ⟨rfl, k1⟩
    have hB : Below w.heap.size w w1 := ((br w).alloc (Nat.le_refl _) _).trans (k1.mono (by simp))
    clear k1
    go_wp2_with fail
    go_ret2
    exact ⟨rfl, hB⟩
set_option maxRecDepth 100000 in
theorem segI_any (st bk lo hi W c x ph r : Nat) (w : World) (h1 : 1 ≤ W) (h2 : W ≤ 1048576) (hx : x < W) (hp : ph < 2) (hr : r + 1 < W) :
    Calls Try.prog 54 #[.agg #[.int .i64 (st : Nat), .int .i64 (bk : Nat), .int .i64 (lo : Nat), .int .i64 (hi : Nat), .int .i64 (W : Nat), .int .i64 (c : Nat)], .int .i64 x, .int .i64 ph, .int .i64 r, .bool false] w fun e w' => e = .returned (.tuple #[.int .i64 (segIn W x ph r : Nat), .bool true]) ∧ Below w.heap.size w w' := by
  have g1 : (x : Int) < W := by omega
  have g2 : (r : Int) < (W : Int) - 1 := by omega
  obtain ⟨W0, hW0⟩ : ∃ W0, w.alloc (.cells #[.int .i64 (st : Nat), .int .i64 (bk : Nat), .int .i64 (lo : Nat), .int .i64 (hi : Nat), .int .i64 (W : Nat), .int .i64 (c : Nat)] 97) = W0 := ⟨_, rfl⟩
  have h0 : W0.heap[w.heap.size]? = some (.cells #[.int .i64 (st : Nat), .int .i64 (bk : Nat), .int .i64 (lo : Nat), .int .i64 (hi : Nat), .int .i64 (W : Nat), .int .i64 (c : Nat)] 97 (0, 0)) := by rw [← hW0]; exact heap_alloc_new w _
  have hB0 : Below w.heap.size w W0 := by rw [← hW0]; exact (br w).alloc (Nat.le_refl _) _
  have t0 := fun w' q => bx6 (sb h0 w' q)
  have har := fun w' => around_any st bk lo hi W c ((x : Int) - 1) w' h1 h2 (by omega) (by omega)
  have hwr : IntKind.i64.wrap ((x : Int) - 1) = (x : Int) - 1 := IntWalk.i64_in _ (by omega)
  obtain ⟨y, hy⟩ : ∃ y : Nat, (y : Int) = ((x : Int) - 1) % (W : Int) := ⟨(((x : Int) - 1) % (W : Int)).toNat, Int.toNat_of_nonneg (Int.emod_nonneg _ (by omega))⟩
  have hyl : y < W := by have := Int.emod_lt_of_pos ((x : Int) - 1) (show (0 : Int) < W by omega); omega
  rw [← hy] at har
  have HW0 := Lib.hid hW0; have HB0 := Lib.hid hB0; have Har := Lib.hid har
  clear hW0 h0 hB0 har
  obtain rfl | rfl : ph = 0 ∨ ph = 1 := by omega
  · have hs := segIn_int (W := W) (x := x) (ph := 0) (r := r) (by omega) ((y : Int) - r) (by rw [hy]; omega)
    have hsc := fun w' => scatter_any st bk lo hi W c y r w' h1 h2 hyl (by omega)
    rw [hs] at hsc
    have Hsc := Lib.hid hsc
    clear hsc hs
    go_enter Try.func54, Try.ntmps54
    have q0 := br W0
    go_wp2_with fail
    rw [HW0.out]
    refine HA.g (fun w' : World => Below W0.heap.size W0 w') ?_
    refine HA.t ?_ [0, 1, 2, 3, 4, 6] q0.drew ?_
    refine HA.c 5 (Har.out _) ?_
    rintro e w1 ⟨rfl, k1⟩
    have q1 := bt q0.drew k1
    refine ⟨_, rfl, q1, fun _ => ?_⟩
    refine HA.c 7 (Hsc.out _) ?_
    rintro e w2 ⟨rfl, k2⟩
    have q2 := bt q1 k2
    refine ⟨_, rfl, q2, fun _ => ?_⟩
    refine HA.t ?_ [8, 9] q2 ?_
    refine HA.d ?_
    have hB := HB0.out.trans (q2.mono HB0.out.size)
    clear k1 k2 q0 q1 q2 t0
    go_wp2_with fail
    go_ret2
    exact ⟨rfl, hB⟩
  · have hs := segIn_int (W := W) (x := x) (ph := 1) (r := r) (by omega) ((y : Int) + 1 - r) (by rw [hy]; omega)
    have hsc := fun w' => gather_any st bk lo hi W c y r w' h1 h2 hyl (by omega)
    rw [hs] at hsc
    have Hsc := Lib.hid hsc
    clear hsc hs
    go_enter Try.func54, Try.ntmps54
    have q0 := br W0
    go_wp2_with fail
    rw [HW0.out]
    refine HA.g (fun w' : World => Below W0.heap.size W0 w') ?_
    refine HA.t ?_ [0, 1, 2, 3, 4, 6] q0.drew ?_
    refine HA.c 5 (Har.out _) ?_
    rintro e w1 ⟨rfl, k1⟩
    have q1 := bt q0.drew k1
    refine ⟨_, rfl, q1, fun _ => ?_⟩
    refine HA.c 7 (Hsc.out _) ?_
    rintro e w2 ⟨rfl, k2⟩
    have q2 := bt q1 k2
    refine ⟨_, rfl, q2, fun _ => ?_⟩
    refine HA.t ?_ [8, 9] q2 ?_
    refine HA.d ?_
    have hB := HB0.out.trans (q2.mono HB0.out.size)
    clear k1 k2 q0 q1 q2 t0
    go_wp2_with fail
    go_ret2
    exact ⟨rfl, hB⟩
end Go.Proofs.Ytaccfnffmbndhaa
