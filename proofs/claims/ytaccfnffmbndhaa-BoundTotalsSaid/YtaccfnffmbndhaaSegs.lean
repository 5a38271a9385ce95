/- bucket.Segments and Chunks. -/
import Derived.Test.YtaccfnffmbndhaaColl
set_option linter.unusedSimpArgs false
set_option linter.unusedVariables false
namespace Go.Proofs.Ytaccfnffmbndhaa
open Go.RowKit

theorem evenR_in {n k : Nat} (h1 : 1 ≤ k) (hn : n ≤ 1048576) : ∀ r ∈ evenR n k, r.1 ≤ 1048576 ∧ r.2 ≤ 1048576 := by
  intro r hr
  simp only [evenR, List.mem_map, List.mem_range] at hr
  obtain ⟨i, hi, rfl⟩ := hr
  have a := bdN_le n k i h1 (by omega)
  have b := bdN_le n k (i + 1) h1 (by omega)
  exact ⟨by simp only; omega, by simp only; omega⟩
theorem blkR_in {n s : Nat} (hn : n ≤ 1048576) : ∀ r ∈ blkR n s, r.1 ≤ 1048576 ∧ r.2 ≤ 1048576 := by
  intro r hr
  simp only [blkR, List.mem_map, List.mem_range] at hr
  obtain ⟨i, hi, rfl⟩ := hr
  have := cntQ_lt hi
  exact ⟨by simp only; omega, by simp only; omega⟩

set_option maxRecDepth 100000 in
theorem segs_any (lo hi k : Nat) (w : World) (h1 : 1 ≤ k) (h2 : k ≤ 1048576) (h3 : lo ≤ 1048576) (h4 : hi ≤ 1048576) :
    Calls Try.prog 55 #[.agg #[.int .i64 lo, .int .i64 hi], .int .i64 k] w fun e w' => ∃ v, e = .returned v ∧ w'.ownsRow w.heap.size 54 2 v k (rgVals (segR (lo, hi) k)) ∧ Below w.heap.size w w' := by
  obtain ⟨W0, hW0⟩ : ∃ W0, w.alloc (.cells #[.int .i64 lo, .int .i64 hi] 54) = W0 := ⟨_, rfl⟩
  have h0 : W0.heap[w.heap.size]? = some (.cells #[.int .i64 lo, .int .i64 hi] 54 (0, 0)) := by rw [← hW0]; exact heap_alloc_new w _
  have hB0 : Below w.heap.size w W0 := by rw [← hW0]; exact (br w).alloc (Nat.le_refl _) _
  have t0 := fun w' q => bx2 (sb h0 w' q)
  have HW0 := Lib.hid hW0; have HB0 := Lib.hid hB0
  clear hW0 h0 hB0
  have Hsh : Hid (segR (lo, hi) k = shR lo (evenR (hi - lo) k)) := Lib.hid rfl
  go_enter Try.func55, Try.ntmps55
  have q0 := br W0
  go_wp2_with fail
  rw [HW0.out]
  refine HA.g (fun w' : World => Below W0.heap.size W0 w') ?_
  refine HA.t ?_ [0, 2, 4, 5] q0.drew ?_
  refine HA.c 1 (rgsize_any lo hi _ h3 h4) ?_
  rintro e w1 ⟨rfl, k1⟩
  have q1 := bt q0.drew k1
  refine ⟨_, rfl, q1, fun _ => ?_⟩
  refine HA.c 3 (even_any (hi - lo) k _ h1 h2 (by omega)) ?_
  rintro e w2 ⟨v2, rfl, o2, k2⟩
  obtain ⟨A, c, rfl, _⟩ := own_form o2
  have q2 := bt q1 k2
  have hl := later_any A (evenR (hi - lo) k) c lo w2 (Rd.own o2)
  rw [evenR_len] at hl
  refine ⟨_, rfl, q2, fun _ => ?_⟩
  refine HA.c 6 hl ?_
  rintro e w3 ⟨L, S, B, rfl, hA, hlb, k3⟩
  have hLB : LatB 0 w3.heap.size L S B A := ⟨⟨Nat.zero_le _, lt_of_block hA.l⟩, ⟨Nat.zero_le _, lt_of_block hA.s⟩, ⟨Nat.zero_le _, lt_of_block hA.b⟩, fun x hx => ⟨Nat.zero_le _, Nat.lt_of_lt_of_le (own_at o2 x hx).2 k3.size⟩⟩
  clear hlb
  have q3 := bt q2 k3
  refine ⟨_, rfl, q3, fun _ => ?_⟩
  refine HA.c 7 (coll_any L S B A _ c lo w3 hA hLB (by rw [evenR_len]; exact h2) h3 (evenR_in h1 (by omega))) ?_
  rintro e w4 ⟨v4, rfl, o4, k4⟩
  have q4 := bt q3 k4
  refine ⟨_, rfl, q4, fun _ => ?_⟩
  refine HA.t ?_ [8] q4 ?_
  refine HA.d ?_
  have hB := Lib.hid (HB0.out.trans (q4.mono HB0.out.size))
  rw [evenR_len, ← Hsh.out] at o4
  have O4 := Lib.hid (own_base (base' := w.heap.size) o4 (Nat.le_trans HB0.out.size q3.size))
  clear o4 o2 hl hA hLB k1 k2 k3 k4 q1 q2 q3 q4 t0
  go_wp2_with fail
  go_ret
  exact ⟨_, rfl, O4.out, hB.out⟩
set_option maxRecDepth 100000 in
theorem chks_any (lo hi k : Nat) (w : World) (h1 : 1 ≤ k) (h2 : k ≤ 1048576) (h3 : lo ≤ 1048576) (h4 : hi ≤ 1048576) :
    Calls Try.prog 56 #[.agg #[.int .i64 lo, .int .i64 hi], .int .i64 k] w fun e w' => ∃ v, e = .returned v ∧ w'.ownsRow w.heap.size 54 2 v (chR (lo, hi) k).length (rgVals (chR (lo, hi) k)) ∧ Below w.heap.size w w' := by
  obtain ⟨W0, hW0⟩ : ∃ W0, w.alloc (.cells #[.int .i64 lo, .int .i64 hi] 54) = W0 := ⟨_, rfl⟩
  have h0 : W0.heap[w.heap.size]? = some (.cells #[.int .i64 lo, .int .i64 hi] 54 (0, 0)) := by rw [← hW0]; exact heap_alloc_new w _
  have hB0 : Below w.heap.size w W0 := by rw [← hW0]; exact (br w).alloc (Nat.le_refl _) _
  have t0 := fun w' q => bx2 (sb h0 w' q)
  have HW0 := Lib.hid hW0; have HB0 := Lib.hid hB0
  clear hW0 h0 hB0
  have Hsh : Hid (chR (lo, hi) k = shR lo (blkR (hi - lo) k)) := Lib.hid rfl
  go_enter Try.func56, Try.ntmps56
  have q0 := br W0
  go_wp2_with fail
  rw [HW0.out]
  refine HA.g (fun w' : World => Below W0.heap.size W0 w') ?_
  refine HA.t ?_ [0, 2, 4, 5] q0.drew ?_
  refine HA.c 1 (rgsize_any lo hi _ h3 h4) ?_
  rintro e w1 ⟨rfl, k1⟩
  have q1 := bt q0.drew k1
  refine ⟨_, rfl, q1, fun _ => ?_⟩
  have hbl := blocks_any (hi - lo) k w1 (by omega) h1 h2
  have hcl := cntQ_le (hi - lo) k
  rw [← blkR_vals, ← blkR_len] at hbl
  rw [← blkR_len] at hcl
  refine HA.c 3 hbl ?_
  rintro e w2 ⟨v2, rfl, o2, k2⟩
  obtain ⟨A, c, rfl, _⟩ := own_form o2
  have q2 := bt q1 k2
  have hl := later_any A (blkR (hi - lo) k) c lo w2 (Rd.own o2)
  refine ⟨_, rfl, q2, fun _ => ?_⟩
  refine HA.c 6 hl ?_
  rintro e w3 ⟨L, S, B, rfl, hA, hlb, k3⟩
  have hLB : LatB 0 w3.heap.size L S B A := ⟨⟨Nat.zero_le _, lt_of_block hA.l⟩, ⟨Nat.zero_le _, lt_of_block hA.s⟩, ⟨Nat.zero_le _, lt_of_block hA.b⟩, fun x hx => ⟨Nat.zero_le _, Nat.lt_of_lt_of_le (own_at o2 x hx).2 k3.size⟩⟩
  clear hlb
  have q3 := bt q2 k3
  refine ⟨_, rfl, q3, fun _ => ?_⟩
  refine HA.c 7 (coll_any L S B A _ c lo w3 hA hLB (by omega) h3 (blkR_in (by omega))) ?_
  rintro e w4 ⟨v4, rfl, o4, k4⟩
  have q4 := bt q3 k4
  refine ⟨_, rfl, q4, fun _ => ?_⟩
  refine HA.t ?_ [8] q4 ?_
  refine HA.d ?_
  have hB := Lib.hid (HB0.out.trans (q4.mono HB0.out.size))
  have hle : (chR (lo, hi) k).length = (blkR (hi - lo) k).length := by rw [Hsh.out, shR_len]
  rw [← Hsh.out, ← hle] at o4
  have O4 := Lib.hid (own_base (base' := w.heap.size) o4 (Nat.le_trans HB0.out.size q3.size))
  clear o4 o2 hl hA hLB hbl hcl hle k1 k2 k3 k4 q1 q2 q3 q4 t0
  go_wp2_with fail
  go_ret
  exact ⟨_, rfl, O4.out, hB.out⟩
end Go.Proofs.Ytaccfnffmbndhaa
