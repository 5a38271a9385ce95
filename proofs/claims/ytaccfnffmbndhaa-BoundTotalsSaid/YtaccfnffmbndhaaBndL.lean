/- The walk of the law BoundTotals. -/
import Derived.Test.YtaccfnffmbndhaaBnd
set_option linter.unusedSimpArgs false
set_option linter.unusedVariables false
namespace Go.Proofs.Ytaccfnffmbndhaa
open Go.RowKit

theorem alive23' (w : World) : Calls Try.prog 5 #[] w fun e w' => e = .returned (.bool true) ∧ Below w.heap.size w w' := alive23 w
set_option maxRecDepth 100000 in
set_option maxHeartbeats 1000000 in
theorem BoundTotals_walk {H : Type} {enc : TypeId × Value → H} {base : Nat} {v0 : Value} {d0 : DataW H} {p0 : List MemPlace} (W : World)
    (o0 : Value.okWide Try.prog W .any base 26 v0) (h0 : DataW.Trod enc Try.prog W 0 (fun _ => true) true 26 v0 d0 p0) (z0 : Light Try.prog 26 d0) :
    Calls Try.prog 3 #[v0] W fun e w' => e = .returned (.bool true) ∧ Below W.heap.size W w' := by
  obtain ⟨A, c, k, n, rfl, hA⟩ := open_pl o0 h0 z0
  clear h0 o0 z0
  obtain ⟨W0, hW0⟩ : ∃ W0, W.alloc (.cells #[.slice A k.sizes.length c, .int .i64 k.shift, .int .i64 k.rate, .int .i64 k.mom, .int .i64 k.workers, .int .i64 k.batch, .int .i64 k.micros, .int .i64 k.steps, .int .i64 k.bucket, .int .i64 k.chunk, .int .i64 k.window, .int .i64 k.cap, .int .i64 n] 26) = W0 := ⟨_, rfl⟩
  have g0 : W0.heap[W.heap.size]? = some (.cells #[.slice A k.sizes.length c, .int .i64 k.shift, .int .i64 k.rate, .int .i64 k.mom, .int .i64 k.workers, .int .i64 k.batch, .int .i64 k.micros, .int .i64 k.steps, .int .i64 k.bucket, .int .i64 k.chunk, .int .i64 k.window, .int .i64 k.cap, .int .i64 n] 26 (0, 0)) := by rw [← hW0]; exact heap_alloc_new W _
  have hB0 : Below W.heap.size W W0 := by rw [← hW0]; exact (br W).alloc (Nat.le_refl _) _
  have hA0 := hA.below hB0
  have hf := rfew20_any A c k n W0 hA0
  have hb := bounds_of A c k n W0 hA0
  have t0 := fun w' q => bx13 (sb g0 w' q)
  have HW0 := Lib.hid hW0; have HB0 := Lib.hid hB0; have Hf := Lib.hid hf; have Hb := Lib.hid hb
  have q0 := br W0
  clear hW0 g0 hB0 hA hA0 hf hb
  go_enter Try.func3, Try.ntmps3
  go_wp2_with fail
  rw [HW0.out]
  refine Hf.out.mono ?_
  rintro e w1 ⟨⟨b, rfl, hfew⟩, k1⟩
  have q1 := bt q0 k1
  cases b with
  | false =>
    have Q1 := Lib.hid (HB0.out.trans (q1.mono HB0.out.size))
    clear k1 hfew
    go_wp2_with fail
    refine (alive23' _).mono ?_
    rintro e w2 ⟨rfl, k2⟩
    have Q2 := Lib.hid (Q1.out.trans (k2.mono Q1.out.size))
    clear k2
    go_wp2_with fail
    go_ret
    exact ⟨rfl, Q2.out⟩
  | true =>
    have HBd := Lib.hid (Hb.out (hfew rfl))
    obtain ⟨t, ht⟩ : ∃ t, stpN k n = t := ⟨_, rfl⟩
    have hr := HBd.out.r
    have hs := HBd.out.s
    have hpk := HBd.out.p
    have hz := HBd.out.z
    rw [ht] at hr hs hpk hz
    obtain ⟨y, hy⟩ : ∃ y, (t : Int) * k.workers = y := ⟨_, rfl⟩
    rw [hy] at hpk hz
    have w5 : IntKind.i64.wrap y = y := IntWalk.i64_in _ (by omega)
    have hy0 : ¬ (0 < (t : Int)) → y = 0 := fun h => by
      have : (t : Int) = 0 := by omega
      rw [← hy, this, Int.zero_mul]
    have Hr := Lib.hid hr; have Hs := Lib.hid hs; have Hpk := Lib.hid hpk; have Hy0 := Lib.hid hy0
    clear hr hs hpk hfew k1 ht hy0
    go_wp2_with fail
    refine (Hr.out _ q1).mono ?_
    rintro e w2 ⟨rfl, k2⟩
    have q2 := bt q1 k2
    clear k2
    by_cases hp : 0 < (t : Int)
    · go_wp2_with fail
      refine (alive23' _).mono ?_
      rintro e w3 ⟨rfl, k3⟩
      have q3 := bt q2 k3
      clear k3
      go_wp2_with fail
      refine (Hs.out _ q3).mono ?_
      rintro e w4 ⟨rfl, k4⟩
      have q4 := bt q3 k4
      clear k4
      go_wp2_with fail
      refine (Hpk.out _ q4).mono ?_
      rintro e w5 ⟨rfl, k5⟩
      have q5 := bt q4 k5
      have Q5 := Lib.hid (HB0.out.trans (q5.mono HB0.out.size))
      clear k5
      go_wp2_with fail
      go_ret
      exact ⟨by simp, Q5.out⟩
    · have hy1 : y = 0 := by have := Hy0.out; apply this; omega
      go_wp2_with fail
      refine (alive23' _).mono ?_
      rintro e w3 ⟨rfl, k3⟩
      have q3 := bt q2 k3
      clear k3
      go_wp2_with fail
      refine (Hs.out _ q3).mono ?_
      rintro e w4 ⟨rfl, k4⟩
      have q4 := bt q3 k4
      clear k4
      go_wp2_with fail
      refine (Hpk.out _ q4).mono ?_
      rintro e w5 ⟨rfl, k5⟩
      have q5 := bt q4 k5
      have Q5 := Lib.hid (HB0.out.trans (q5.mono HB0.out.size))
      clear k5
      go_wp2_with fail
      go_ret
      exact ⟨by simp [hy1], Q5.out⟩
end Go.Proofs.Ytaccfnffmbndhaa
