/- bucket.Segments and Chunks. A region that draws its order, within a round: by the plain calculus. bucket.Messages. ring: around, scatter, gather, Segment. ring.Segment. The closure 'add' of ring.Round. No condition. -/
import Derived.Test.YtaccfnffmbndhaaGreatK06
import Derived.Test.YtaccfnffmbndhaaGreatK04
import Derived.Deep.RegionHeld
set_option linter.unusedSimpArgs false
set_option linter.unusedVariables false
namespace Go.Proofs.YtaccfnffmbndhaaGreat
open Go.RowKit
theorem evenR_in {n k : Nat} (h1 : 1 ≤ k) (hn : n ≤ 1048576) : ∀ r ∈ evenR n k, r.1 ≤ 1048576 ∧ r.2 ≤ 1048576 := by
  intro r hr
  simp only [evenR, List.mem_map, List.mem_range] at hr
  obtain ⟨i, hi, rfl⟩ := hr
  have a := bdN_le n k i h1 (by omega)
  have b := bdN_le n k (i + 1) h1 (by omega)
  exact ⟨by simp only; omega, by simp only; omega⟩
theorem blkR_in {n s : Nat} (hn : n ≤ 1048576) : ∀ r ∈ blkR n s, r.1 ≤ 1048576 ∧ r.2 ≤ 1048576 := by
  intro r hr
  simp only [blkR, List.mem_map, List.mem_range] at hr
  obtain ⟨i, hi, rfl⟩ := hr
  have := cntQ_lt hi
  exact ⟨by simp only; omega, by simp only; omega⟩
set_option maxRecDepth 100000 in
theorem segs_any (lo hi k : Nat) (w : World) (h1 : 1 ≤ k) (h2 : k ≤ 1048576) (h3 : lo ≤ 1048576) (h4 : hi ≤ 1048576) :
    Calls Tryz.prog 190 #[.agg #[.int .i64 lo, .int .i64 hi], .int .i64 k] w fun e w' => ∃ v, e = .returned v ∧ w'.ownsRow w.heap.size 52 2 v k (rgVals (segR (lo, hi) k)) ∧ Below w.heap.size w w' := by
  obtain ⟨W0, hW0⟩ : ∃ W0, w.alloc (.cells #[.int .i64 lo, .int .i64 hi] 52) = W0 := ⟨_, rfl⟩
  have h0 : W0.heap[w.heap.size]? = some (.cells #[.int .i64 lo, .int .i64 hi] 52 (0, 0)) := by rw [← hW0]; exact heap_alloc_new w _
  have hB0 : Below w.heap.size w W0 := by rw [← hW0]; exact (br w).alloc (Nat.le_refl _) _
  have t0 := fun w' q => bx2 (sb h0 w' q)
  have HW0 := Lib.hid hW0; have HB0 := Lib.hid hB0
  clear hW0 h0 hB0
  have Hsh : Hid (segR (lo, hi) k = shR lo (evenR (hi - lo) k)) := Lib.hid rfl
  go_enter Tryz.func190, Tryz.ntmps190
  have q0 := br W0
  go_wp2_with fail
  rw [HW0.out]
  refine HA.g (fun w' : World => Below W0.heap.size W0 w') ?_
  refine HA.t ?_ [0, 2, 4, 5] q0.drew ?_
  refine HA.c 1 (rgsize_any lo hi _ h3 h4) ?_
  rintro e w1 ⟨rfl, k1⟩
  have q1 := bt q0.drew k1
  refine ⟨_, rfl, q1, fun _ => ?_⟩
  refine HA.c 3 (even_any (hi - lo) k _ h1 h2 (by omega)) ?_
  rintro e w2 ⟨v2, rfl, o2, k2⟩
  obtain ⟨A, c, rfl, _⟩ := own_form o2
  have q2 := bt q1 k2
  have hl := later_any A (evenR (hi - lo) k) c lo w2 (Rd.own o2)
  rw [evenR_len] at hl
  refine ⟨_, rfl, q2, fun _ => ?_⟩
  refine HA.c 6 hl ?_
  rintro e w3 ⟨L, S, B, rfl, hA, hlb, k3⟩
  have hLB : LatB 0 w3.heap.size L S B A := ⟨⟨Nat.zero_le _, lt_of_block hA.l⟩, ⟨Nat.zero_le _, lt_of_block hA.s⟩, ⟨Nat.zero_le _, lt_of_block hA.b⟩, fun x hx => ⟨Nat.zero_le _, Nat.lt_of_lt_of_le (own_at o2 x hx).2 k3.size⟩⟩
  clear hlb
  have q3 := bt q2 k3
  refine ⟨_, rfl, q3, fun _ => ?_⟩
  refine HA.c 7 (coll_any L S B A _ c lo w3 hA hLB (by rw [evenR_len]; exact h2) h3 (evenR_in h1 (by omega))) ?_
  rintro e w4 ⟨v4, rfl, o4, k4⟩
  have q4 := bt q3 k4
  refine ⟨_, rfl, q4, fun _ => ?_⟩
  refine HA.t ?_ [8] q4 ?_
  refine HA.d ?_
  have hB := Lib.hid (HB0.out.trans (q4.mono HB0.out.size))
  rw [evenR_len, ← Hsh.out] at o4
  have O4 := Lib.hid (own_base (base' := w.heap.size) o4 (Nat.le_trans HB0.out.size q3.size))
  clear o4 o2 hl hA hLB k1 k2 k3 k4 q1 q2 q3 q4 t0
  go_wp2_with fail
  go_ret
  exact ⟨_, rfl, O4.out, hB.out⟩
set_option maxRecDepth 100000 in
theorem chks_any (lo hi k : Nat) (w : World) (h1 : 1 ≤ k) (h2 : k ≤ 1048576) (h3 : lo ≤ 1048576) (h4 : hi ≤ 1048576) :
    Calls Tryz.prog 191 #[.agg #[.int .i64 lo, .int .i64 hi], .int .i64 k] w fun e w' => ∃ v, e = .returned v ∧ w'.ownsRow w.heap.size 52 2 v (chR (lo, hi) k).length (rgVals (chR (lo, hi) k)) ∧ Below w.heap.size w w' := by
  obtain ⟨W0, hW0⟩ : ∃ W0, w.alloc (.cells #[.int .i64 lo, .int .i64 hi] 52) = W0 := ⟨_, rfl⟩
  have h0 : W0.heap[w.heap.size]? = some (.cells #[.int .i64 lo, .int .i64 hi] 52 (0, 0)) := by rw [← hW0]; exact heap_alloc_new w _
  have hB0 : Below w.heap.size w W0 := by rw [← hW0]; exact (br w).alloc (Nat.le_refl _) _
  have t0 := fun w' q => bx2 (sb h0 w' q)
  have HW0 := Lib.hid hW0; have HB0 := Lib.hid hB0
  clear hW0 h0 hB0
  have Hsh : Hid (chR (lo, hi) k = shR lo (blkR (hi - lo) k)) := Lib.hid rfl
  go_enter Tryz.func191, Tryz.ntmps191
  have q0 := br W0
  go_wp2_with fail
  rw [HW0.out]
  refine HA.g (fun w' : World => Below W0.heap.size W0 w') ?_
  refine HA.t ?_ [0, 2, 4, 5] q0.drew ?_
  refine HA.c 1 (rgsize_any lo hi _ h3 h4) ?_
  rintro e w1 ⟨rfl, k1⟩
  have q1 := bt q0.drew k1
  refine ⟨_, rfl, q1, fun _ => ?_⟩
  have hbl := blocks_any (hi - lo) k w1 (by omega) h1 h2
  have hcl := cntQ_le (hi - lo) k
  rw [← blkR_vals, ← blkR_len] at hbl
  rw [← blkR_len] at hcl
  refine HA.c 3 hbl ?_
  rintro e w2 ⟨v2, rfl, o2, k2⟩
  obtain ⟨A, c, rfl, _⟩ := own_form o2
  have q2 := bt q1 k2
  have hl := later_any A (blkR (hi - lo) k) c lo w2 (Rd.own o2)
  refine ⟨_, rfl, q2, fun _ => ?_⟩
  refine HA.c 6 hl ?_
  rintro e w3 ⟨L, S, B, rfl, hA, hlb, k3⟩
  have hLB : LatB 0 w3.heap.size L S B A := ⟨⟨Nat.zero_le _, lt_of_block hA.l⟩, ⟨Nat.zero_le _, lt_of_block hA.s⟩, ⟨Nat.zero_le _, lt_of_block hA.b⟩, fun x hx => ⟨Nat.zero_le _, Nat.lt_of_lt_of_le (own_at o2 x hx).2 k3.size⟩⟩
  clear hlb
  have q3 := bt q2 k3
  refine ⟨_, rfl, q3, fun _ => ?_⟩
  refine HA.c 7 (coll_any L S B A _ c lo w3 hA hLB (by omega) h3 (blkR_in (by omega))) ?_
  rintro e w4 ⟨v4, rfl, o4, k4⟩
  have q4 := bt q3 k4
  refine ⟨_, rfl, q4, fun _ => ?_⟩
  refine HA.t ?_ [8] q4 ?_
  refine HA.d ?_
  have hB := Lib.hid (HB0.out.trans (q4.mono HB0.out.size))
  have hle : (chR (lo, hi) k).length = (blkR (hi - lo) k).length := by rw [Hsh.out, shR_len]
  rw [← Hsh.out, ← hle] at o4
  have O4 := Lib.hid (own_base (base' := w.heap.size) o4 (Nat.le_trans HB0.out.size q3.size))
  clear o4 o2 hl hA hLB hbl hcl hle k1 k2 k3 k4 q1 q2 q3 q4 t0
  go_wp2_with fail
  go_ret
  exact ⟨_, rfl, O4.out, hB.out⟩
end Go.Proofs.YtaccfnffmbndhaaGreat
namespace Go.Proofs.YtaccfnffmbndhaaGreat
open Go.RowKit Go.Shelf
theorem rows_inRound {l n : Nat} {P : Program} {row : String} {args : Array Value} {w : World} {R : Value → World → Prop} (h : Rows P row args w R) : RowsIn (Fence.wide.inRound l) n P row args w R :=
  fun c cs _ => let ⟨v, w', r, s⟩ := h c cs; ⟨v, w', r, (stepsIn_wide (P := P)).2 s⟩
theorem oper_inRound {l n : Nat} {P : Program} {o : Oper} {a : Act} {w : World} {K : Act → World → Prop} {Q : Exit → Act → World → Prop} (hnd : ∀ c, o.op ≠ .defer c) (h : o.wp P a w K Q) : o.wpIn (Fence.wide.inRound l) n P a w K Q := by
  unfold Oper.wp at h
  unfold Oper.wpIn
  refine ⟨fun _ _ => trivial, ?_⟩
  rw [Oper.semAt_plain _ _ _ hnd]
  generalize (execOp a.eval o).run P w = r at *
  cases r with
  | ok x w' =>
    cases x <;> simp only [Oper.upon, Oper.uponIn] at h ⊢ <;>
      first
        | exact h
        | exact ⟨fun h' => (by cases h'), CallsIn.inRound l (callsIn_wide.2 h)⟩
        | exact ⟨fun h' => (by cases h'), rows_inRound h⟩
        | exact h.elim
  | halt x w' => cases x <;> simp only [Oper.upon, Oper.uponIn] at h ⊢ <;> exact h
theorem wpOp_inRound {l n : Nat} {P : Program} {ops : Array Oper} {Q : Exit → Act → World → Prop} (hnd : ∀ (i : Nat) (o : Oper), ops[i]? = some o → ∀ c, o.op ≠ .defer c) (hno : ¬ LetsOut Q) {i : Nat} {K : Act → World → Prop} {a : Act} {w : World}
    (h : wpOp P ops Q i K a w) : wpOpIn (Fence.wide.inRound l) n P ops Q i K a w := by
  unfold wpOp at h
  unfold wpOpIn
  split at h
  · rename_i hi; simp only [hi]; exact h
  · rename_i o hi
    simp only [hi]
    split at h
    · rename_i hw
      rw [if_pos hw]
      rcases h with h | ⟨_, h⟩
      · exact oper_inRound (hnd i o hi) h
      · exact absurd h hno
    · rename_i hw
      rw [if_neg hw]
      exact ⟨fun _ _ => trivial, h⟩
theorem wpAny_inRound {l n : Nat} {P : Program} {md : Region.Mode} {ops : Array Oper} {Q : Exit → Act → World → Prop} (hnd : ∀ (i : Nat) (o : Oper), ops[i]? = some o → ∀ c, o.op ≠ .defer c) (hno : ¬ LetsOut Q) : ∀ (fuel : Nat) (listed : Array Bool) (a : Act) (w : World),
    wpAny P md ops Q fuel listed a w → wpAnyIn (Fence.wide.inRound l) n P md ops Q fuel listed a w
  | 0, _, _, _, h => h
  | fuel + 1, _, _, _, h => ⟨h.1, fun i hi => wpOpIn_mono (fun a' w' h' => wpAny_inRound hnd hno fuel _ a' w' h') (wpOp_inRound hnd hno (h.2 i hi))⟩
def Defers : Op → Bool
  | .defer _ => true
  | _ => false
theorem noDefer {ops : Array Oper} (h : ops.all (fun o => !Defers o.op) = true) : ∀ (i : Nat) (o : Oper), ops[i]? = some o → ∀ c, o.op ≠ .defer c := fun i o ho c e => by
  have := (Array.all_eq_true.1 h) i (Array.getElem?_eq_some_iff.1 ho).1
  rw [(Array.getElem?_eq_some_iff.1 ho).2, e] at this
  cases this
theorem region_inRound {l n : Nat} {P : Program} {ops : Array Oper} {Q : Exit → Act → World → Prop} (S : World → Prop) {id : Nat} {a : Act} {w : World} (hm : P.follows .mixedOrders = true) (hnd : ops.all (fun o => !Defers o.op) = true) (hno : ¬ LetsOut Q)
    (h : wpAnyH P .any ops Q S ops.size (Array.replicate ops.size false) a w.drew) : (Code.region id ops true).wpIn (Fence.wide.inRound l) n P Q a w :=
  wpIn_region_any hm (wpAny_inRound (noDefer hnd) hno _ _ _ _ (wpAny_of_held _ _ _ _ h))
theorem HA.r {P : Program} {ops : Array Oper} {Q : Exit → Act → World → Prop} {l n id : Nat} {a : Act} {w : World} (S : World → Prop) (h : HA P ops Q S [] a w.drew) (hm : P.follows .mixedOrders = true := by kernel_rfl) (hnd : ops.all (fun o => !Defers o.op) = true := by kernel_rfl) (hno : ¬ LetsOut Q := by (rintro ⟨_, _, h⟩; exact h)) :
    (Code.region id ops true).wpIn (Fence.wide.inRound l) n P Q a w := by
  have h' := h.out
  rw [unl_marked] at h'
  exact region_inRound S hm hnd hno h'
theorem XA.r {P : Program} {ops : Array Oper} {Q : Exit → Act → World → Prop} {l m id : Nat} {a : Act} {w : World} (n : Nat) (S : World → Prop) (h : XA P ops Q S n [] a w.drew) (hm : P.follows .mixedOrders = true := by kernel_rfl) (hnd : ops.all (fun o => !Defers o.op) = true := by kernel_rfl) (hno : ¬ LetsOut Q := by (rintro ⟨_, _, h⟩; exact h)) :
    (Code.region id ops true).wpIn (Fence.wide.inRound l) m P Q a w := by
  have h' := h.out
  rw [unl_marked] at h'
  exact wpIn_region_any hm (wpAny_inRound (noDefer hnd) hno _ _ _ _ (wpAny_of_X _ _ _ _ h'))
end Go.Proofs.YtaccfnffmbndhaaGreat
namespace Go.Proofs.YtaccfnffmbndhaaGreat
open Go.RowKit Go.Shelf
attribute [local go_sem] Oper.semAt_some
theorem chR_len (s : Rg) (c : Nat) : (chR s c).length = cntQ (s.2 - s.1) c := by rw [chR, shR_len, blkR_len]
theorem segR_in {b : Rg} {k : Nat} (h1 : 1 ≤ k) (hb1 : b.1 ≤ 1048576) (hb : b.2 ≤ 1048576) : ∀ r ∈ segR b k, r.1 ≤ 1048576 ∧ r.2 ≤ 1048576 := by
  intro r hr
  simp only [segR, shR, evenR, List.map_map, List.mem_map, List.mem_range, Function.comp] at hr
  obtain ⟨i, hi, rfl⟩ := hr
  have a := bdN_le (b.2 - b.1) k i h1 (by omega)
  have c := bdN_le (b.2 - b.1) k (i + 1) h1 (by omega)
  exact ⟨by simp only; omega, by simp only; omega⟩
end Go.Proofs.YtaccfnffmbndhaaGreat
namespace Go.Proofs.YtaccfnffmbndhaaGreat
open Go.RowKit
theorem tmod_emod (n : Int) (W : Nat) (h : 1 ≤ W) : n % (W : Int) = if n.tmod W < 0 then n.tmod W + W else n.tmod W := by
  rw [Int.tmod_eq_emod]
  have h1 := Int.emod_nonneg n (show (W : Int) ≠ 0 by omega)
  have h2 := Int.emod_lt_of_pos n (show (0 : Int) < W by omega)
  have hna : ((W : Int).natAbs : Int) = W := by simp
  split <;> split <;> omega
theorem tmod_in (n : Int) (W : Nat) (h : 1 ≤ W) : -(W : Int) < n.tmod W ∧ n.tmod W < W := by
  rw [Int.tmod_eq_emod]
  have h1 := Int.emod_nonneg n (show (W : Int) ≠ 0 by omega)
  have h2 := Int.emod_lt_of_pos n (show (0 : Int) < W by omega)
  have hna : ((W : Int).natAbs : Int) = W := by simp
  split
  · omega
  · rename_i hh
    have : n % (W : Int) ≠ 0 := fun e => hh (.inr (Int.dvd_of_emod_eq_zero e))
    omega
set_option maxRecDepth 100000 in
theorem around_any (st bk lo hi W c : Nat) (n : Int) (w : World) (h1 : 1 ≤ W) (h2 : W ≤ 1048576) (hn : -(W : Int) ≤ n) (hn2 : n ≤ 2 * W) :
    Calls Tryz.prog 208 #[.agg #[.int .i64 (st : Nat), .int .i64 (bk : Nat), .int .i64 (lo : Nat), .int .i64 (hi : Nat), .int .i64 (W : Nat), .int .i64 (c : Nat)], .int .i64 n] w fun e w' => e = .returned (.int .i64 (n % (W : Int))) ∧ Below w.heap.size w w' := by
  have hz : ¬ ((W : Int) = 0) := by omega
  have hm := tmod_in n W h1
  have he := tmod_emod n W h1
  obtain ⟨r, hr⟩ : ∃ r, n.tmod (W : Int) = r := ⟨_, rfl⟩
  rw [hr] at hm he
  by_cases hneg : r < 0
  · rw [if_pos hneg] at he
    rw [he]
    have HH := Lib.hid he
    clear he
    go_enter Tryz.func208, Tryz.ntmps208
    go_wp2_with fail
    go_ret
    exact ⟨rfl, (br w).alloc (Nat.le_refl _) _⟩
  · rw [if_neg hneg] at he
    rw [he]
    have HH := Lib.hid he
    clear he
    go_enter Tryz.func208, Tryz.ntmps208
    go_wp2_with fail
    go_ret
    exact ⟨rfl, (br w).alloc (Nat.le_refl _) _⟩
set_option maxRecDepth 100000 in
theorem scatter_any (st bk lo hi W c x r : Nat) (w : World) (h1 : 1 ≤ W) (h2 : W ≤ 1048576) (hx : x < W) (hr : r < W) :
    Calls Tryz.prog 206 #[.agg #[.int .i64 (st : Nat), .int .i64 (bk : Nat), .int .i64 (lo : Nat), .int .i64 (hi : Nat), .int .i64 (W : Nat), .int .i64 (c : Nat)], .int .i64 x, .int .i64 r] w fun e w' => e = .returned (.int .i64 (((x : Int) - r) % (W : Int))) ∧ Below w.heap.size w w' := by
  have ha := fun w' => around_any st bk lo hi W c ((x : Int) - r) w' h1 h2 (by omega) (by omega)
  have Ha := Lib.hid ha
  clear ha
  go_enter Tryz.func206, Tryz.ntmps206
  go_wp2_with fail
  refine (Ha.out _).mono ?_
  rintro e w1 ⟨rfl, k1⟩
  have hB : Below w.heap.size w w1 := ((br w).alloc (Nat.le_refl _) _).trans (k1.mono (by simp))
  clear k1
  go_wp2_with fail
  go_ret
  exact ⟨rfl, hB⟩
set_option maxRecDepth 100000 in
theorem gather_any (st bk lo hi W c x r : Nat) (w : World) (h1 : 1 ≤ W) (h2 : W ≤ 1048576) (hx : x < W) (hr : r < W) :
    Calls Tryz.prog 207 #[.agg #[.int .i64 (st : Nat), .int .i64 (bk : Nat), .int .i64 (lo : Nat), .int .i64 (hi : Nat), .int .i64 (W : Nat), .int .i64 (c : Nat)], .int .i64 x, .int .i64 r] w fun e w' => e = .returned (.int .i64 (((x : Int) + 1 - r) % (W : Int))) ∧ Below w.heap.size w w' := by
  have ha := fun w' => around_any st bk lo hi W c ((x : Int) + 1 - r) w' h1 h2 (by omega) (by omega)
  have Ha := Lib.hid ha
  clear ha
  go_enter Tryz.func207, Tryz.ntmps207
  go_wp2_with fail
  refine (Ha.out _).mono ?_
  rintro e w1 ⟨rfl, k1⟩
  have hB : Below w.heap.size w w1 := ((br w).alloc (Nat.le_refl _) _).trans (k1.mono (by simp))
  clear k1
  go_wp2_with fail
  go_ret
  exact ⟨rfl, hB⟩
theorem segOut_int {W x ph r : Nat} (hr : r < W) (n : Int) (hn : n = (x : Int) + ph - r) : n % (W : Int) = ((segOut W x ph r : Nat) : Int) := by
  unfold segOut
  rw [Int.natCast_emod, show ((x + (2 * W + ph - r) : Nat) : Int) = n + 2 * W by omega, Int.add_mul_emod_self_right]
theorem segIn_int {W x ph r : Nat} (hr : r + 1 ≤ W) (n : Int) (hn : n = ((x : Int) - 1) % (W : Int) + ph - r) : n % (W : Int) = ((segIn W x ph r : Nat) : Int) := by
  unfold segIn
  rw [Int.natCast_emod, show ((x + (2 * W + ph - r - 1) : Nat) : Int) = ((x : Int) - 1 + ph - r) + 2 * W by omega, Int.add_mul_emod_self_right, hn, Int.add_sub_assoc, Int.emod_add_emod, Int.add_sub_assoc]
end Go.Proofs.YtaccfnffmbndhaaGreat
namespace Go.Proofs.YtaccfnffmbndhaaGreat
open Go.RowKit
theorem idx_zero (w : World) (f g : Fn) : (Instr.index 320 (.agg #[.func f #[] #[], .func g #[] #[]]) (.int .i64 0)).run Tryz.prog w = .ok (.func f #[] #[]) w := by
  simp [Instr.index, run_underlying Tryz.underlying320, asIntOf, go_sem]
theorem idx_one (w : World) (f g : Fn) : (Instr.index 320 (.agg #[.func f #[] #[], .func g #[] #[]]) (.int .i64 1)).run Tryz.prog w = .ok (.func g #[] #[]) w := by
  simp [Instr.index, run_underlying Tryz.underlying320, asIntOf, go_sem]
attribute [local go_sem] idx_zero idx_one
set_option maxRecDepth 100000 in
theorem segO_any (st bk lo hi W c x ph r : Nat) (w : World) (h1 : 1 ≤ W) (h2 : W ≤ 1048576) (hx : x < W) (hp : ph < 2) (hr : r + 1 < W) :
    Calls Tryz.prog 189 #[.agg #[.int .i64 (st : Nat), .int .i64 (bk : Nat), .int .i64 (lo : Nat), .int .i64 (hi : Nat), .int .i64 (W : Nat), .int .i64 (c : Nat)], .int .i64 x, .int .i64 ph, .int .i64 r, .bool true] w fun e w' => e = .returned (.tuple #[.int .i64 (segOut W x ph r : Nat), .bool true]) ∧ Below w.heap.size w w' := by
  have g1 : (x : Int) < W := by omega
  have g2 : (r : Int) < (W : Int) - 1 := by omega
  have hs := segOut_int (W := W) (x := x) (ph := ph) (r := r) (by omega) _ rfl
  obtain rfl | rfl : ph = 0 ∨ ph = 1 := by omega
  · have ha := fun w' => scatter_any st bk lo hi W c x r w' h1 h2 hx (by omega)
    rw [show ((x : Int) + (0 : Nat) - r) = (x : Int) - r by omega] at hs
    rw [hs] at ha
    have Ha := Lib.hid ha
    clear ha hs
    go_enter Tryz.func189, Tryz.ntmps189
    go_wp2_with fail
    refine (Ha.out _).mono ?_
    rintro e w1 ⟨rfl, k1⟩
    have hB : Below w.heap.size w w1 := ((br w).alloc (Nat.le_refl _) _).trans (k1.mono (by simp))
    clear k1
    go_wp2_with fail
    go_ret2
    exact ⟨rfl, hB⟩
  · have ha := fun w' => gather_any st bk lo hi W c x r w' h1 h2 hx (by omega)
    rw [show ((x : Int) + (1 : Nat) - r) = (x : Int) + 1 - r by omega] at hs
    rw [hs] at ha
    have Ha := Lib.hid ha
    clear ha hs
    go_enter Tryz.func189, Tryz.ntmps189
    go_wp2_with fail
    refine (Ha.out _).mono ?_
    rintro e w1 ⟨rfl, k1⟩
    have hB : Below w.heap.size w w1 := ((br w).alloc (Nat.le_refl _) _).trans (k1.mono (by simp))
    clear k1
    go_wp2_with fail
    go_ret2
    exact ⟨rfl, hB⟩
set_option maxRecDepth 100000 in
theorem segI_any (st bk lo hi W c x ph r : Nat) (w : World) (h1 : 1 ≤ W) (h2 : W ≤ 1048576) (hx : x < W) (hp : ph < 2) (hr : r + 1 < W) :
    Calls Tryz.prog 189 #[.agg #[.int .i64 (st : Nat), .int .i64 (bk : Nat), .int .i64 (lo : Nat), .int .i64 (hi : Nat), .int .i64 (W : Nat), .int .i64 (c : Nat)], .int .i64 x, .int .i64 ph, .int .i64 r, .bool false] w fun e w' => e = .returned (.tuple #[.int .i64 (segIn W x ph r : Nat), .bool true]) ∧ Below w.heap.size w w' := by
  have g1 : (x : Int) < W := by omega
  have g2 : (r : Int) < (W : Int) - 1 := by omega
  obtain ⟨W0, hW0⟩ : ∃ W0, w.alloc (.cells #[.int .i64 (st : Nat), .int .i64 (bk : Nat), .int .i64 (lo : Nat), .int .i64 (hi : Nat), .int .i64 (W : Nat), .int .i64 (c : Nat)] 275) = W0 := ⟨_, rfl⟩
  have h0 : W0.heap[w.heap.size]? = some (.cells #[.int .i64 (st : Nat), .int .i64 (bk : Nat), .int .i64 (lo : Nat), .int .i64 (hi : Nat), .int .i64 (W : Nat), .int .i64 (c : Nat)] 275 (0, 0)) := by rw [← hW0]; exact heap_alloc_new w _
  have hB0 : Below w.heap.size w W0 := by rw [← hW0]; exact (br w).alloc (Nat.le_refl _) _
  have t0 := fun w' q => bx6 (sb h0 w' q)
  have har := fun w' => around_any st bk lo hi W c ((x : Int) - 1) w' h1 h2 (by omega) (by omega)
  have hwr : IntKind.i64.wrap ((x : Int) - 1) = (x : Int) - 1 := IntWalk.i64_in _ (by omega)
  obtain ⟨y, hy⟩ : ∃ y : Nat, (y : Int) = ((x : Int) - 1) % (W : Int) := ⟨(((x : Int) - 1) % (W : Int)).toNat, Int.toNat_of_nonneg (Int.emod_nonneg _ (by omega))⟩
  have hyl : y < W := by have := Int.emod_lt_of_pos ((x : Int) - 1) (show (0 : Int) < W by omega); omega
  rw [← hy] at har
  have HW0 := Lib.hid hW0; have HB0 := Lib.hid hB0; have Har := Lib.hid har
  clear hW0 h0 hB0 har
  obtain rfl | rfl : ph = 0 ∨ ph = 1 := by omega
  · have hs := segIn_int (W := W) (x := x) (ph := 0) (r := r) (by omega) ((y : Int) - r) (by rw [hy]; omega)
    have hsc := fun w' => scatter_any st bk lo hi W c y r w' h1 h2 hyl (by omega)
    rw [hs] at hsc
    have Hsc := Lib.hid hsc
    clear hsc hs
    go_enter Tryz.func189, Tryz.ntmps189
    have q0 := br W0
    go_wp2_with fail
    rw [HW0.out]
    refine HA.g (fun w' : World => Below W0.heap.size W0 w') ?_
    refine HA.t ?_ [0, 1, 2, 3, 4, 6] q0.drew ?_
    refine HA.c 5 (Har.out _) ?_
    rintro e w1 ⟨rfl, k1⟩
    have q1 := bt q0.drew k1
    refine ⟨_, rfl, q1, fun _ => ?_⟩
    refine HA.c 7 (Hsc.out _) ?_
    rintro e w2 ⟨rfl, k2⟩
    have q2 := bt q1 k2
    refine ⟨_, rfl, q2, fun _ => ?_⟩
    refine HA.t ?_ [8, 9] q2 ?_
    refine HA.d ?_
    have hB := HB0.out.trans (q2.mono HB0.out.size)
    clear k1 k2 q0 q1 q2 t0
    go_wp2_with fail
    go_ret2
    exact ⟨rfl, hB⟩
  · have hs := segIn_int (W := W) (x := x) (ph := 1) (r := r) (by omega) ((y : Int) + 1 - r) (by rw [hy]; omega)
    have hsc := fun w' => gather_any st bk lo hi W c y r w' h1 h2 hyl (by omega)
    rw [hs] at hsc
    have Hsc := Lib.hid hsc
    clear hsc hs
    go_enter Tryz.func189, Tryz.ntmps189
    have q0 := br W0
    go_wp2_with fail
    rw [HW0.out]
    refine HA.g (fun w' : World => Below W0.heap.size W0 w') ?_
    refine HA.t ?_ [0, 1, 2, 3, 4, 6] q0.drew ?_
    refine HA.c 5 (Har.out _) ?_
    rintro e w1 ⟨rfl, k1⟩
    have q1 := bt q0.drew k1
    refine ⟨_, rfl, q1, fun _ => ?_⟩
    refine HA.c 7 (Hsc.out _) ?_
    rintro e w2 ⟨rfl, k2⟩
    have q2 := bt q1 k2
    refine ⟨_, rfl, q2, fun _ => ?_⟩
    refine HA.t ?_ [8, 9] q2 ?_
    refine HA.d ?_
    have hB := HB0.out.trans (q2.mono HB0.out.size)
    clear k1 k2 q0 q1 q2 t0
    go_wp2_with fail
    go_ret2
    exact ⟨rfl, hB⟩
end Go.Proofs.YtaccfnffmbndhaaGreat
namespace Go.Proofs.YtaccfnffmbndhaaGreat
open Go.RowKit
theorem XA.v {P : Program} {ops : Array Oper} {Q : Exit → Act → World → Prop} {S : World → Prop} {n : Nat} {L : List Nat} {a : Act} {w : World} {o : Oper} (i : Nat) (w' : World) (v : Value) (hS : S w') (k : XA P ops Q S n (i :: L) (a.put o.dst v) w') (ho : ops[i]? = some o := by (simp only [List.getElem?_toArray, List.getElem?_cons_succ, List.getElem?_cons_zero]; rfl))
    (hr : readyF ops L = [i] := by decide +kernel) (hw : Region.wanted o (yielded ops a.tmps) = true := by rfl) (he : (execOp a.eval o).run P w = .ok (.value v) w' := by go_simp) : XA P ops Q S n L a w := by
  refine XA.one i ho hr fun K' hK => ?_
  rw [if_pos hw]
  unfold Oper.wp
  rw [he]
  exact hK.out _ _ hS fun _ => k
def acnCells (a : Acn) : List Value := [.bool a.send, .bool a.add, .int .i64 (a.st : Nat), .int .i64 (a.bk : Nat), .int .i64 (a.ph : Nat), .int .i64 (a.rd : Nat), .int .i64 (a.ch : Nat), .int .i64 (a.at'.1 : Nat), .int .i64 (a.at'.2 : Nat)]
def acnVals (l : List Acn) : List Value := l.flatMap acnCells
theorem acnVals_snoc (l : List Acn) (a : Acn) : acnVals (l ++ [a]) = acnVals l ++ acnCells a := by simp [acnVals]
theorem et_acts : ElemT Tryz.prog 276 54 (.agg #[.bool false, .bool false, .int .i64 0, .int .i64 0, .int .i64 0, .int .i64 0, .int .i64 0, .int .i64 0, .int .i64 0]) 9 64 := ⟨Tryz.underlying276, info_parts (by kernel_rfl), rfl, by decide⟩
set_option maxRecDepth 100000 in
theorem acadd_out (snd : Bool) (i : Nat) (A : Option Addr) (n c J Pb Rb N : Nat) (w : World) (hi : n ≤ i) :
    Calls Tryz.prog 192 #[.bool snd, .int .i64 i, .slice A n c, .pointer (some ⟨J, 0, none⟩), .pointer (some ⟨Pb, 0, none⟩), .pointer (some ⟨Rb, 0, none⟩), .pointer (some ⟨N, 0, none⟩)] w fun e w' => e = .returned (.tuple #[]) ∧ w' = w := by
  have hi2 : ¬ ((i : Int) < n) := by omega
  go_enter Tryz.func192, Tryz.ntmps192
  go_wp2_with fail
  go_end0
  exact ⟨rfl, rfl⟩
set_option maxRecDepth 100000 in
set_option maxHeartbeats 1000000 in
theorem acadd_in (snd : Bool) (i : Nat) (A : Option Addr) (rs : List Rg) (n c J Pb Rb N base : Nat) (st bk lo hi W cc ph r : Nat) (x : Rg) (v : Value) (l : List Acn) (m : Nat) (w : World)
    (hJ : w.heap[J]? = some (.cells #[.int .i64 (st : Nat), .int .i64 (bk : Nat), .int .i64 (lo : Nat), .int .i64 (hi : Nat), .int .i64 (W : Nat), .int .i64 (cc : Nat)] 275 (0, 0)))
    (hP : w.heap[Pb]? = some (.cells #[.int .i64 (ph : Nat)] 3 (0, 0))) (hR : w.heap[Rb]? = some (.cells #[.int .i64 (r : Nat)] 3 (0, 0)))
    (hN : w.heap[N]? = some (.cells #[v] 276 (0, 0))) (ho : w.ownsRow base 54 9 v m (acnVals l)) (hb : base ≤ w.heap.size)
    (hA : Rd w A (rgVals rs)) (hn : rs.length = n) (hx : rs[i]? = some x) (hm : m ≤ 8388608) (hn2 : n ≤ 1048576) (hAb : ∀ y, A = some y → y.block < base) :
    Calls Tryz.prog 192 #[.bool snd, .int .i64 i, .slice A n c, .pointer (some ⟨J, 0, none⟩), .pointer (some ⟨Pb, 0, none⟩), .pointer (some ⟨Rb, 0, none⟩), .pointer (some ⟨N, 0, none⟩)] w fun e w' => e = .returned (.tuple #[]) ∧
      ∃ v', w'.heap[N]? = some (.cells #[v'] 276 (0, 0)) ∧ w'.ownsRow base 54 9 v' (m + 1) (acnVals (l ++ [⟨snd, !snd && ph == 0, st, bk, ph, r, i, x⟩])) ∧ Keep (fun j => j = N ∨ v.ownBlock = some j) w w' := by
  have hlt : i < n := by rw [← hn]; exact (List.getElem?_eq_some_iff.1 hx).1
  have hlt2 : (i : Int) < n := by omega
  have hrv := rgVals_at hx
  obtain ⟨g, o, rfl, c0⟩ := hA _ _ hrv.1
  obtain ⟨g', o', e', c1⟩ := hA _ _ hrv.2
  obtain ⟨rfl, rfl⟩ : g' = g ∧ o' = o := by simpa using e'.symm
  rw [← Nat.add_assoc] at c1
  obtain ⟨W0, hW0⟩ : ∃ W0, w.alloc (.cells #[.int .i64 (st : Nat), .int .i64 (bk : Nat), .int .i64 (ph : Nat), .int .i64 (r : Nat), .int .i64 (i : Nat)] 50) = W0 := ⟨_, rfl⟩
  have h0 : W0.heap[w.heap.size]? = some (.cells #[.int .i64 (st : Nat), .int .i64 (bk : Nat), .int .i64 (ph : Nat), .int .i64 (r : Nat), .int .i64 (i : Nat)] 50 (0, 0)) := by rw [← hW0]; exact heap_alloc_new w _
  have hB0 : Below w.heap.size w W0 := by rw [← hW0]; exact (br w).alloc (Nat.le_refl _) _
  have xJ := bx6 hJ
  have xP := bx1 hP
  have xR := bx1 hR
  have hO0 := own_below ho hB0
  have nt := fun b cs t' sg (hb' : W0.heap[b]? = some (.cells cs t' sg)) (hne : t' ≠ 54) (e : v.ownBlock = some b) => block_notrow hb' hne hO0 e.symm
  have hP0 := sb hP _ hB0
  have hN0 := sb hN _ hB0
  have kP := fun w' (q : Keep (fun j => v.ownBlock = some j) W0 w') => (q.block _ (lt_of_block hP0) (nt _ _ _ _ hP0 (by decide))).trans hP0
  have kN := fun w' (q : Keep (fun j => v.ownBlock = some j) W0 w') => (q.block _ (lt_of_block hN0) (nt _ _ _ _ hN0 (by decide))).trans hN0
  have tP := fun w' q => bx1 (kP w' q)
  have tN := fun w' q => bx1 (kN w' q)
  have t0 := fun w' (q : Keep (fun j => v.ownBlock = some j) W0 w') => bx5 ((q.block _ (lt_of_block h0) (nt _ _ _ _ h0 (by decide))).trans h0)
  have hnb : ¬ v.ownBlock = some g' := fun e => by
    have h1 := (hO0.lt g' e).1
    have h2 := hAb _ rfl
    simp only at h2
    omega
  have d0 := fun w' (q : Keep (fun j => v.ownBlock = some j) W0 w') => q.cell (cell_below hB0 c0) hnb
  have d1 := fun w' (q : Keep (fun j => v.ownBlock = some j) W0 w') => q.cell (cell_below hB0 c1) hnb
  have HN := Lib.hid kN; have HO := Lib.hid hO0; have HB0 := Lib.hid hB0; have HW0 := Lib.hid hW0
  clear hJ hP hR hN ho hB0 hW0 hrv hA e' hx hn h0 hP0 hN0 kP kN hO0 nt hnb c0 c1 hAb
  go_enter Tryz.func192, Tryz.ntmps192
  have q0 : Keep (fun j => v.ownBlock = some j) W0 W0.drew := (Keep.refl _ _).drew
  go_wp2_with fail
  rw [HW0.out]
  have hpe : ((ph : Int) == 0) = (ph == 0) := by rw [Bool.eq_iff_iff]; simp
  cases snd
  · refine XA.g 16 (fun w' : World => Keep (fun j => v.ownBlock = some j) W0 w') ?_
    refine XA.t ?_ [0, 1, 2, 3, 4, 5, 6, 7, 8, 9, 10, 11, 12, 13] q0 ?_
    obtain ⟨a, ha⟩ : ∃ a : Acn, a = ⟨false, (!false && ph == 0), st, bk, ph, r, i, x⟩ := ⟨_, rfl⟩
    refine XA.v 14 (W0.drew.alloc (.cells (acnCells a).toArray 54)) (.slice (some ⟨W0.heap.size, 0, none⟩) 1 1) (q0.alloc _) ?_ rfl (by decide +kernel) rfl (by subst ha; go_simp; simp [acnCells, hpe]; try rfl)
    refine XA.o 15 (fun K' hK => ?_) rfl (by decide +kernel)
    have hO := (HO.out.drew).alloc (.cells (acnCells a).toArray 54)
    have hbs := HB0.out.size
    refine step_appX et_acts (.tmp 23) (.tmp 37) rfl rfl base v m _ rfl hO (some ⟨W0.heap.size, 0, none⟩) 1 1 (acnCells a) rfl (fun k u hu => ⟨_, _, rfl, by rw [Nat.zero_add, cell_of_row _ W0.heap.size k (acnCells a).toArray 54 (0, 0) (heap_alloc_new W0.drew _)]; simpa using hu⟩) rfl (by simp [acnCells, Value.oneCell']) (by omega) (by unfold maxLen; omega) (by simp; omega) ?_
    intro A5 c5 w5 ho5 hb5 hg5 _
    have q5 : Keep (fun j => v.ownBlock = some j) W0 w5 := (q0.alloc _).grown hg5 (fun k hk => .inr hk)
    refine hK.out _ _ q5 fun _ => ?_
    refine XA.e ?_
    simp only [List.drop_succ_cons, List.drop_zero]
    have hN5 := HN.out w5 q5
    have e3 := heap_setCell_same w5 N 0 _ _ (.slice A5 (m + 1) c5) hN5
    have k1 : Keep (fun j => j = N) w5 (w5.setCell ⟨N, 0, none⟩ (.slice A5 (m + 1) c5)) := Keep.setCell (S := fun j => j = N) (Keep.refl _ _) ⟨N, 0, none⟩ (.inr rfl) _
    have o6 := k1.own ho5 (fun j hj e => block_notrow hN5 (by decide) ho5 (by rw [hj, e]))
    have k6 : Keep (fun j => j = N ∨ v.ownBlock = some j) w (w5.setCell ⟨N, 0, none⟩ (.slice A5 (m + 1) c5)) := Keep.setCell (S := fun j => j = N ∨ v.ownBlock = some j) ((Keep.below HB0.out).trans (q5.mono fun k _ hk => .inr hk)) ⟨N, 0, none⟩ (.inr (.inl rfl)) _
    have E3 := Lib.hid e3; have O6 := Lib.hid o6; have K6 := Lib.hid k6; have HA := Lib.hid ha
    have xN := tN w5 q5
    clear ho5 hb5 hg5 hN5 e3 k1 o6 k6 tN tP t0 d0 d1 hK K' ha q5 hO
    go_wp2_with fail
    go_end0
    refine ⟨rfl, _, by simpa using E3.out, ?_, K6.out⟩
    rw [acnVals_snoc, ← HA.out]
    exact O6.out
  · refine XA.g 16 (fun w' : World => Keep (fun j => v.ownBlock = some j) W0 w') ?_
    refine XA.t ?_ [0, 1, 2, 3, 4, 5, 6, 7, 8, 9, 10, 11, 12, 13] q0 ?_
    obtain ⟨a, ha⟩ : ∃ a : Acn, a = ⟨true, (!true && ph == 0), st, bk, ph, r, i, x⟩ := ⟨_, rfl⟩
    refine XA.v 14 (W0.drew.alloc (.cells (acnCells a).toArray 54)) (.slice (some ⟨W0.heap.size, 0, none⟩) 1 1) (q0.alloc _) ?_ rfl (by decide +kernel) rfl (by subst ha; go_simp; simp [acnCells, hpe]; try rfl)
    refine XA.o 15 (fun K' hK => ?_) rfl (by decide +kernel)
    have hO := (HO.out.drew).alloc (.cells (acnCells a).toArray 54)
    have hbs := HB0.out.size
    refine step_appX et_acts (.tmp 23) (.tmp 37) rfl rfl base v m _ rfl hO (some ⟨W0.heap.size, 0, none⟩) 1 1 (acnCells a) rfl (fun k u hu => ⟨_, _, rfl, by rw [Nat.zero_add, cell_of_row _ W0.heap.size k (acnCells a).toArray 54 (0, 0) (heap_alloc_new W0.drew _)]; simpa using hu⟩) rfl (by simp [acnCells, Value.oneCell']) (by omega) (by unfold maxLen; omega) (by simp; omega) ?_
    intro A5 c5 w5 ho5 hb5 hg5 _
    have q5 : Keep (fun j => v.ownBlock = some j) W0 w5 := (q0.alloc _).grown hg5 (fun k hk => .inr hk)
    refine hK.out _ _ q5 fun _ => ?_
    refine XA.e ?_
    simp only [List.drop_succ_cons, List.drop_zero]
    have hN5 := HN.out w5 q5
    have e3 := heap_setCell_same w5 N 0 _ _ (.slice A5 (m + 1) c5) hN5
    have k1 : Keep (fun j => j = N) w5 (w5.setCell ⟨N, 0, none⟩ (.slice A5 (m + 1) c5)) := Keep.setCell (S := fun j => j = N) (Keep.refl _ _) ⟨N, 0, none⟩ (.inr rfl) _
    have o6 := k1.own ho5 (fun j hj e => block_notrow hN5 (by decide) ho5 (by rw [hj, e]))
    have k6 : Keep (fun j => j = N ∨ v.ownBlock = some j) w (w5.setCell ⟨N, 0, none⟩ (.slice A5 (m + 1) c5)) := Keep.setCell (S := fun j => j = N ∨ v.ownBlock = some j) ((Keep.below HB0.out).trans (q5.mono fun k _ hk => .inr hk)) ⟨N, 0, none⟩ (.inr (.inl rfl)) _
    have E3 := Lib.hid e3; have O6 := Lib.hid o6; have K6 := Lib.hid k6; have HA := Lib.hid ha
    have xN := tN w5 q5
    clear ho5 hb5 hg5 hN5 e3 k1 o6 k6 tN tP t0 d0 d1 hK K' ha q5 hO
    go_wp2_with fail
    go_end0
    refine ⟨rfl, _, by simpa using E3.out, ?_, K6.out⟩
    rw [acnVals_snoc, ← HA.out]
    exact O6.out
def actAdd (snd : Bool) (i : Nat) (rs : List Rg) (st bk ph r : Nat) (l : List Acn) : List Acn := if i < rs.length then l ++ [⟨snd, !snd && ph == 0, st, bk, ph, r, i, rgAt rs i⟩] else l
theorem acadd_any (snd : Bool) (i : Nat) (A : Option Addr) (rs : List Rg) (c J Pb Rb N base : Nat) (st bk lo hi W cc ph r : Nat) (v : Value) (l : List Acn) (w : World)
    (hJ : w.heap[J]? = some (.cells #[.int .i64 (st : Nat), .int .i64 (bk : Nat), .int .i64 (lo : Nat), .int .i64 (hi : Nat), .int .i64 (W : Nat), .int .i64 (cc : Nat)] 275 (0, 0)))
    (hP : w.heap[Pb]? = some (.cells #[.int .i64 (ph : Nat)] 3 (0, 0))) (hR : w.heap[Rb]? = some (.cells #[.int .i64 (r : Nat)] 3 (0, 0)))
    (hN : w.heap[N]? = some (.cells #[v] 276 (0, 0))) (ho : w.ownsRow base 54 9 v l.length (acnVals l)) (hb : base ≤ w.heap.size) (hNb : base ≤ N)
    (hA : Rd w A (rgVals rs)) (hm : l.length ≤ 8388608) (hn2 : rs.length ≤ 1048576) (hAb : ∀ y, A = some y → y.block < base) :
    Calls Tryz.prog 192 #[.bool snd, .int .i64 i, .slice A rs.length c, .pointer (some ⟨J, 0, none⟩), .pointer (some ⟨Pb, 0, none⟩), .pointer (some ⟨Rb, 0, none⟩), .pointer (some ⟨N, 0, none⟩)] w fun e w' => e = .returned (.tuple #[]) ∧
      ∃ v', w'.heap[N]? = some (.cells #[v'] 276 (0, 0)) ∧ w'.ownsRow base 54 9 v' (actAdd snd i rs st bk ph r l).length (acnVals (actAdd snd i rs st bk ph r l)) ∧ Below base w w' := by
  by_cases h : i < rs.length
  · refine (acadd_in snd i A rs rs.length c J Pb Rb N base st bk lo hi W cc ph r (rgAt rs i) v l l.length w hJ hP hR hN ho hb hA rfl (by rw [rgAt_eq rs i h]; simp [h]) hm hn2 hAb).mono ?_
    rintro e w' ⟨rfl, v', n1, o1, k1⟩
    have e1 : actAdd snd i rs st bk ph r l = l ++ [⟨snd, !snd && ph == 0, st, bk, ph, r, i, rgAt rs i⟩] := if_pos h
    refine ⟨rfl, v', n1, ?_, k1.toBelow hb ?_⟩
    · rw [e1, List.length_append]; exact o1
    · rintro j (rfl | hj)
      · exact hNb
      · exact (ho.lt j hj).1
  · refine (acadd_out snd i A rs.length c J Pb Rb N w (by omega)).mono ?_
    rintro e w' ⟨rfl, rfl⟩
    have e1 : actAdd snd i rs st bk ph r l = l := if_neg h
    exact ⟨rfl, v, hN, by rw [e1]; exact ho, Below.refl _ _⟩
end Go.Proofs.YtaccfnffmbndhaaGreat
