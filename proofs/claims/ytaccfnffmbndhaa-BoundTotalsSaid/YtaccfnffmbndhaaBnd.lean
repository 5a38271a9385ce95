/- bound.Steps and Picks; the walk of the law BoundTotals. -/
import Derived.Test.YtaccfnffmbndhaaBndR
import Derived.Test.YtaccfnffmbndhaaBoundF
import Derived.Test.YtaccfnffmbndhaaConf
import Derived.Test.YtaccfnffmbndhaaOpnPln
set_option linter.unusedSimpArgs false
set_option linter.unusedVariables false
namespace Go.Proofs.Ytaccfnffmbndhaa
open Go.RowKit

set_option maxRecDepth 100000 in
theorem bsteps_good (p : Pln) (stp : Nat) (a0 a1 a2 a3 a5 a11 : Value) (w : World) (hp : PlnOk p) (hn : 1 ≤ p.n) (hbu : p.bu ≤ 1048576) (hwi : p.wi ≤ 1048576) (hst : stp ≤ 12)
    (hck : ∀ w', Below w.heap.size w w' → Calls Try.prog 18 #[.agg #[a0, a1, a2, a3, .int .i64 (p.W : Nat), a5, .int .i64 (p.mi : Nat), .int .i64 (stp : Nat), .int .i64 (p.bu : Nat), .int .i64 (p.ck : Nat), .int .i64 (p.wi : Nat), a11]] w' fun e w'' => e = .returned (.int .i64 0) ∧ Below w'.heap.size w' w'') :
    Calls Try.prog 7 #[.agg #[a0, a1, a2, a3, .int .i64 (p.W : Nat), a5, .int .i64 (p.mi : Nat), .int .i64 (stp : Nat), .int .i64 (p.bu : Nat), .int .i64 (p.ck : Nat), .int .i64 (p.wi : Nat), a11], .int .i64 (p.n : Nat)] w fun e w' => e = .returned (.int .i64 ((totN p * stp : Nat) : Int)) ∧ Below w.heap.size w w' := by
  obtain ⟨W0, hW0⟩ : ∃ W0, w.alloc (.cells #[a0, a1, a2, a3, .int .i64 (p.W : Nat), a5, .int .i64 (p.mi : Nat), .int .i64 (stp : Nat), .int .i64 (p.bu : Nat), .int .i64 (p.ck : Nat), .int .i64 (p.wi : Nat), a11] 24) = W0 := ⟨_, rfl⟩
  have g0 : W0.heap[w.heap.size]? = some (.cells #[a0, a1, a2, a3, .int .i64 (p.W : Nat), a5, .int .i64 (p.mi : Nat), .int .i64 (stp : Nat), .int .i64 (p.bu : Nat), .int .i64 (p.ck : Nat), .int .i64 (p.wi : Nat), a11] 24 (0, 0)) := by rw [← hW0]; exact heap_alloc_new w _
  have hB0 : Below w.heap.size w W0 := by rw [← hW0]; exact (br w).alloc (Nat.le_refl _) _
  have hc := pnew_good p a0 a1 a2 a3 a5 (.int .i64 (stp : Nat)) a11 W0 hp hn hbu hwi (fun w' q => hck w' (hB0.trans (q.mono hB0.size)))
  have HW0 := Lib.hid hW0; have HB0 := Lib.hid hB0; have Hc := Lib.hid hc
  have t0 := fun w' q => bx12 (sb g0 w' q)
  have q0 := br W0
  clear hW0 g0 hB0 hc hck
  go_enter Try.func7, Try.ntmps7
  go_wp2_with fail
  rw [HW0.out]
  refine Hc.out.mono ?_
  rintro e w1 ⟨P, rfl, hP, pa, k1⟩
  have pa1 := pa.agr (Agr.refl _ w1)
  have Ht := Lib.hid (total_any p stp P a0 a1 a2 a3 a5 a11 w1 hp hst pa1)
  have K1 := Lib.hid (HB0.out.trans (k1.mono HB0.out.size))
  clear pa pa1 k1
  go_wp2_with fail
  refine Ht.out.mono ?_
  rintro e w2 ⟨rfl, k2⟩
  have K2 := Lib.hid (K1.out.trans (k2.mono K1.out.size))
  clear k2
  go_wp2_with fail
  go_ret
  exact ⟨ret_int (by push_cast; rfl), K2.out⟩
set_option maxRecDepth 100000 in
theorem bsteps_bad (b0 b1 b2 b3 : Value) (b4 : Int) (b5 b6 b7 b8 b9 b10 b11 : Value) (n code : Int) (w : World) (hb : code ≠ 0 ∨ n < 1 ∨ 1048576 < n)
    (hck : ∀ w', Below w.heap.size w w' → Calls Try.prog 18 #[.agg #[b0, b1, b2, b3, .int .i64 b4, b5, b6, b7, b8, b9, b10, b11]] w' fun e w'' => e = .returned (.int .i64 code) ∧ Below w'.heap.size w' w'') :
    Calls Try.prog 7 #[.agg #[b0, b1, b2, b3, .int .i64 b4, b5, b6, b7, b8, b9, b10, b11], .int .i64 n] w fun e w' => e = .returned (.int .i64 0) ∧ Below w.heap.size w w' := by
  obtain ⟨W0, hW0⟩ : ∃ W0, w.alloc (.cells #[b0, b1, b2, b3, .int .i64 b4, b5, b6, b7, b8, b9, b10, b11] 24) = W0 := ⟨_, rfl⟩
  have g0 : W0.heap[w.heap.size]? = some (.cells #[b0, b1, b2, b3, .int .i64 b4, b5, b6, b7, b8, b9, b10, b11] 24 (0, 0)) := by rw [← hW0]; exact heap_alloc_new w _
  have hB0 : Below w.heap.size w W0 := by rw [← hW0]; exact (br w).alloc (Nat.le_refl _) _
  have hc := pnew_bad b0 b1 b2 b3 (.int .i64 b4) b5 b6 b7 b8 b9 b10 b11 n code W0 hb (fun w' q => hck w' (hB0.trans (q.mono hB0.size)))
  have HW0 := Lib.hid hW0; have HB0 := Lib.hid hB0; have Hc := Lib.hid hc
  have t0 := fun w' q => bx12 (sb g0 w' q)
  have q0 := br W0
  clear hW0 g0 hB0 hc hck hb
  go_enter Try.func7, Try.ntmps7
  go_wp2_with fail
  rw [HW0.out]
  refine Hc.out.mono ?_
  rintro e w1 ⟨rfl, k1⟩
  have K1 := Lib.hid (HB0.out.trans (k1.mono HB0.out.size))
  clear k1
  go_wp2_with fail
  refine (total_nil w1).mono ?_
  rintro e w2 ⟨rfl, rfl⟩
  go_wp2_with fail
  go_ret
  exact ⟨rfl, K1.out⟩
set_option maxRecDepth 100000 in
theorem bpicks_good (p : Pln) (stp : Nat) (a0 a1 a2 a3 a5 a11 : Value) (w : World) (hp : PlnOk p) (hn : 1 ≤ p.n) (hbu : p.bu ≤ 1048576) (hwi : p.wi ≤ 1048576) (hst : stp ≤ 12)
    (hck : ∀ w', Below w.heap.size w w' → Calls Try.prog 18 #[.agg #[a0, a1, a2, a3, .int .i64 (p.W : Nat), a5, .int .i64 (p.mi : Nat), .int .i64 (stp : Nat), .int .i64 (p.bu : Nat), .int .i64 (p.ck : Nat), .int .i64 (p.wi : Nat), a11]] w' fun e w'' => e = .returned (.int .i64 0) ∧ Below w'.heap.size w' w'') :
    Calls Try.prog 8 #[.agg #[a0, a1, a2, a3, .int .i64 (p.W : Nat), a5, .int .i64 (p.mi : Nat), .int .i64 (stp : Nat), .int .i64 (p.bu : Nat), .int .i64 (p.ck : Nat), .int .i64 (p.wi : Nat), a11], .int .i64 (p.n : Nat)] w fun e w' => e = .returned (.int .i64 ((totN p * stp * p.W : Nat) : Int)) ∧ Below w.heap.size w w' := by
  obtain ⟨W0, hW0⟩ : ∃ W0, w.alloc (.cells #[a0, a1, a2, a3, .int .i64 (p.W : Nat), a5, .int .i64 (p.mi : Nat), .int .i64 (stp : Nat), .int .i64 (p.bu : Nat), .int .i64 (p.ck : Nat), .int .i64 (p.wi : Nat), a11] 24) = W0 := ⟨_, rfl⟩
  have g0 : W0.heap[w.heap.size]? = some (.cells #[a0, a1, a2, a3, .int .i64 (p.W : Nat), a5, .int .i64 (p.mi : Nat), .int .i64 (stp : Nat), .int .i64 (p.bu : Nat), .int .i64 (p.ck : Nat), .int .i64 (p.wi : Nat), a11] 24 (0, 0)) := by rw [← hW0]; exact heap_alloc_new w _
  have hB0 : Below w.heap.size w W0 := by rw [← hW0]; exact (br w).alloc (Nat.le_refl _) _
  have hc := fun w' (q : Below W0.heap.size W0 w') => bsteps_good p stp a0 a1 a2 a3 a5 a11 w' hp hn hbu hwi hst (fun w'' q' => hck w'' (hB0.trans ((bt q q').mono hB0.size)))
  have hst2 := sumT_le hp (Nat.le_refl p.buks.length)
  have hbl := hp.buks; have hW8 := hp.W8; have hmi := hp.mi
  have htl : totN p ≤ 810000 := by
    have : p.W * (p.mi + 2 * p.buks.length + 1) ≤ 8 * 141 := Nat.mul_le_mul hW8 (by omega)
    unfold totN; omega
  obtain ⟨t, ht⟩ : ∃ t, totN p * stp = t := ⟨_, rfl⟩
  have htl2 : t ≤ 810000 * 12 := by rw [← ht]; exact Nat.mul_le_mul htl hst
  rw [ht] at hc ⊢
  obtain ⟨y, hy⟩ : ∃ y, t * p.W = y := ⟨_, rfl⟩
  have h5 : (t : Int) * (p.W : Int) = (y : Int) := by rw [← hy]; push_cast; rfl
  have hyl : y ≤ 810000 * 12 * 8 := by rw [← hy]; exact Nat.mul_le_mul htl2 hW8
  have w5 : IntKind.i64.wrap (y : Int) = y := IntWalk.i64_in _ (by omega)
  have hmx : ¬ ((p.W : Int) < 0) := by omega
  rw [hy]
  have HW0 := Lib.hid hW0; have HB0 := Lib.hid hB0; have Hc := Lib.hid hc
  have t0 := fun w' q => bx12 (sb g0 w' q)
  have q0 := br W0
  clear hW0 g0 hB0 hc hck ht hy
  go_enter Try.func8, Try.ntmps8
  go_wp2_with fail
  rw [HW0.out]
  refine HA.g (fun w' : World => Below W0.heap.size W0 w') ?_
  refine HA.t ?_ [0, 1, 3, 4, 5] q0.drew ?_
  refine HA.c 2 (Hc.out _ q0.drew) ?_
  rintro e w1 ⟨rfl, k1⟩
  have q1 := bt q0.drew k1
  refine ⟨_, rfl, q1, fun _ => ?_⟩
  refine HA.t ?_ [6, 7] q1 ?_
  refine HA.d ?_
  have K1 := Lib.hid (HB0.out.trans (q1.mono HB0.out.size))
  clear k1 q1 q0 t0
  go_wp2_with fail
  go_ret
  exact ⟨rfl, K1.out⟩
set_option maxRecDepth 100000 in
theorem bpicks_bad (b0 b1 b2 b3 : Value) (b4 : Int) (b5 b6 b7 b8 b9 b10 b11 : Value) (n code : Int) (w : World) (hb : code ≠ 0 ∨ n < 1 ∨ 1048576 < n)
    (hck : ∀ w', Below w.heap.size w w' → Calls Try.prog 18 #[.agg #[b0, b1, b2, b3, .int .i64 b4, b5, b6, b7, b8, b9, b10, b11]] w' fun e w'' => e = .returned (.int .i64 code) ∧ Below w'.heap.size w' w'') :
    Calls Try.prog 8 #[.agg #[b0, b1, b2, b3, .int .i64 b4, b5, b6, b7, b8, b9, b10, b11], .int .i64 n] w fun e w' => e = .returned (.int .i64 0) ∧ Below w.heap.size w w' := by
  obtain ⟨W0, hW0⟩ : ∃ W0, w.alloc (.cells #[b0, b1, b2, b3, .int .i64 b4, b5, b6, b7, b8, b9, b10, b11] 24) = W0 := ⟨_, rfl⟩
  have g0 : W0.heap[w.heap.size]? = some (.cells #[b0, b1, b2, b3, .int .i64 b4, b5, b6, b7, b8, b9, b10, b11] 24 (0, 0)) := by rw [← hW0]; exact heap_alloc_new w _
  have hB0 : Below w.heap.size w W0 := by rw [← hW0]; exact (br w).alloc (Nat.le_refl _) _
  have hc := fun w' (q : Below W0.heap.size W0 w') => bsteps_bad b0 b1 b2 b3 b4 b5 b6 b7 b8 b9 b10 b11 n code w' hb (fun w'' q' => hck w'' (hB0.trans ((bt q q').mono hB0.size)))
  have HW0 := Lib.hid hW0; have HB0 := Lib.hid hB0; have Hc := Lib.hid hc
  have t0 := fun w' q => bx12 (sb g0 w' q)
  have q0 := br W0
  clear hW0 g0 hB0 hc hck hb
  have w0 : IntKind.i64.wrap 0 = 0 := rfl
  go_enter Try.func8, Try.ntmps8
  go_wp2_with fail
  rw [HW0.out]
  by_cases hx : b4 < 0
  · refine HA.g (fun w' : World => Below W0.heap.size W0 w') ?_
    refine HA.t ?_ [0, 1, 3, 4, 5] q0.drew ?_
    refine HA.c 2 (Hc.out _ q0.drew) ?_
    rintro e w1 ⟨rfl, k1⟩
    have q1 := bt q0.drew k1
    refine ⟨_, rfl, q1, fun _ => ?_⟩
    refine HA.t ?_ [6, 7] q1 ?_
    refine HA.d ?_
    have K1 := Lib.hid (HB0.out.trans (q1.mono HB0.out.size))
    clear k1 q1 q0 t0
    go_wp2_with fail
    go_ret
    exact ⟨rfl, K1.out⟩
  · refine HA.g (fun w' : World => Below W0.heap.size W0 w') ?_
    refine HA.t ?_ [0, 1, 3, 4, 5] q0.drew ?_
    refine HA.c 2 (Hc.out _ q0.drew) ?_
    rintro e w1 ⟨rfl, k1⟩
    have q1 := bt q0.drew k1
    refine ⟨_, rfl, q1, fun _ => ?_⟩
    refine HA.t ?_ [6, 7] q1 ?_
    refine HA.d ?_
    have K1 := Lib.hid (HB0.out.trans (q1.mono HB0.out.size))
    clear k1 q1 q0 t0
    go_wp2_with fail
    go_ret
    exact ⟨rfl, K1.out⟩

/-! The law. -/
/-- The numbers of a plan. -/
def plnOf (k : Cfg) (n : Int) : Pln := ⟨k.workers.toNat, k.micros.toNat, k.bucket.toNat, k.chunk.toNat, k.window.toNat, n.toNat⟩
/-- The number of steps. -/
noncomputable def stpN (k : Cfg) (n : Int) : Nat := if rightQ k n = true then totN (plnOf k n) * k.steps.toNat else 0
/-- The three results of the program and of the reference. -/
structure Bounds (A : Option Addr) (c : Nat) (k : Cfg) (n : Int) (w : World) : Prop where
  r : ∀ w', Below w.heap.size w w' → Calls Try.prog 6 #[.agg #[.slice A k.sizes.length c, .int .i64 k.shift, .int .i64 k.rate, .int .i64 k.mom, .int .i64 k.workers, .int .i64 k.batch, .int .i64 k.micros, .int .i64 k.steps, .int .i64 k.bucket, .int .i64 k.chunk, .int .i64 k.window, .int .i64 k.cap, .int .i64 n]] w' fun e w'' => e = .returned (.int .i64 (stpN k n : Nat)) ∧ Below w'.heap.size w' w''
  s : ∀ w', Below w.heap.size w w' → Calls Try.prog 7 #[.agg #[.slice A k.sizes.length c, .int .i64 k.shift, .int .i64 k.rate, .int .i64 k.mom, .int .i64 k.workers, .int .i64 k.batch, .int .i64 k.micros, .int .i64 k.steps, .int .i64 k.bucket, .int .i64 k.chunk, .int .i64 k.window, .int .i64 k.cap], .int .i64 n] w' fun e w'' => e = .returned (.int .i64 (stpN k n : Nat)) ∧ Below w'.heap.size w' w''
  p : ∀ w', Below w.heap.size w w' → Calls Try.prog 8 #[.agg #[.slice A k.sizes.length c, .int .i64 k.shift, .int .i64 k.rate, .int .i64 k.mom, .int .i64 k.workers, .int .i64 k.batch, .int .i64 k.micros, .int .i64 k.steps, .int .i64 k.bucket, .int .i64 k.chunk, .int .i64 k.window, .int .i64 k.cap], .int .i64 n] w' fun e w'' => e = .returned (.int .i64 ((stpN k n : Nat) * k.workers)) ∧ Below w'.heap.size w' w''
  z : (stpN k n : Int) * k.workers ≤ 1000000000 ∧ 0 ≤ (stpN k n : Int) * k.workers ∧ stpN k n ≤ 1000000000
set_option maxRecDepth 100000 in
theorem rsteps_of (A : Option Addr) (c : Nat) (k : Cfg) (n : Int) (w : World) (h : CfgRd w A c k) (t : Nat)
    (ht : rightQ k n = true → ∀ w', Below w.heap.size w w' → Calls Try.prog 11 #[.agg #[.slice A k.sizes.length c, .int .i64 k.shift, .int .i64 k.rate, .int .i64 k.mom, .int .i64 k.workers, .int .i64 k.batch, .int .i64 k.micros, .int .i64 k.steps, .int .i64 k.bucket, .int .i64 k.chunk, .int .i64 k.window, .int .i64 k.cap, .int .i64 n]] w' fun e w'' => e = .returned (.int .i64 (t : Nat)) ∧ Below w'.heap.size w' w'') (h0 : rightQ k n = false → t = 0) :
    Calls Try.prog 6 #[.agg #[.slice A k.sizes.length c, .int .i64 k.shift, .int .i64 k.rate, .int .i64 k.mom, .int .i64 k.workers, .int .i64 k.batch, .int .i64 k.micros, .int .i64 k.steps, .int .i64 k.bucket, .int .i64 k.chunk, .int .i64 k.window, .int .i64 k.cap, .int .i64 n]] w fun e w' => e = .returned (.int .i64 (t : Nat)) ∧ Below w.heap.size w w' := by
  obtain ⟨W0, hW0⟩ : ∃ W0, w.alloc (.cells #[.slice A k.sizes.length c, .int .i64 k.shift, .int .i64 k.rate, .int .i64 k.mom, .int .i64 k.workers, .int .i64 k.batch, .int .i64 k.micros, .int .i64 k.steps, .int .i64 k.bucket, .int .i64 k.chunk, .int .i64 k.window, .int .i64 k.cap, .int .i64 n] 26) = W0 := ⟨_, rfl⟩
  have g0 : W0.heap[w.heap.size]? = some (.cells #[.slice A k.sizes.length c, .int .i64 k.shift, .int .i64 k.rate, .int .i64 k.mom, .int .i64 k.workers, .int .i64 k.batch, .int .i64 k.micros, .int .i64 k.steps, .int .i64 k.bucket, .int .i64 k.chunk, .int .i64 k.window, .int .i64 k.cap, .int .i64 n] 26 (0, 0)) := by rw [← hW0]; exact heap_alloc_new w _
  have hB0 : Below w.heap.size w W0 := by rw [← hW0]; exact (br w).alloc (Nat.le_refl _) _
  have hc := rright_any A c k n W0 (h.below hB0)
  have t0 := fun w' q => bx13 (sb g0 w' q)
  have HW0 := Lib.hid hW0; have HB0 := Lib.hid hB0; have Hc := Lib.hid hc; have Ht := Lib.hid ht; have H0 := Lib.hid h0
  have q0 := br W0
  clear hW0 g0 hB0 hc h ht h0
  obtain ⟨r, hr⟩ : ∃ r, rightQ k n = r := ⟨_, rfl⟩
  rw [hr] at Hc Ht H0
  clear hr
  cases r with
  | true =>
    go_enter Try.func6, Try.ntmps6
    go_wp2_with fail
    rw [HW0.out]
    refine Hc.out.mono ?_
    rintro e w1 ⟨rfl, k1⟩
    have q1 := bt q0 k1
    have HB := Lib.hid (HB0.out.trans (q1.mono HB0.out.size))
    clear k1
    go_wp2_with fail
    refine (Ht.out trivial w1 HB.out).mono ?_
    rintro e w2 ⟨rfl, k2⟩
    have HB2 := Lib.hid (HB.out.trans (k2.mono HB.out.size))
    clear k2
    go_wp2_with fail
    go_ret
    exact ⟨rfl, HB2.out⟩
  | false =>
    obtain rfl := H0.out rfl
    go_enter Try.func6, Try.ntmps6
    go_wp2_with fail
    rw [HW0.out]
    refine Hc.out.mono ?_
    rintro e w1 ⟨rfl, k1⟩
    have q1 := bt q0 k1
    have HB := Lib.hid (HB0.out.trans (q1.mono HB0.out.size))
    clear k1
    go_wp2_with fail
    go_ret
    exact ⟨rfl, HB.out⟩
theorem bounds_of (A : Option Addr) (c : Nat) (k : Cfg) (n : Int) (w : World) (h : CfgRd w A c k) (hs : SmallP k n (rightQ k n)) : Bounds A c k n w := by
  by_cases hr : rightQ k n = true
  · have hs' := hs hr
    have hr2 := hr
    unfold rightQ at hr2
    simp only [Bool.and_eq_true, decide_eq_true_eq] at hr2
    have hg := cfg_good.1 hr2.1
    have hst : stpN k n = totN (plnOf k n) * k.steps.toNat := if_pos hr
    obtain ⟨sz, sh, ra, mo, wk, ba, mi, sp, bu, ch, wi, ca⟩ := k
    have g1 := hg.w; have g2 := hg.mi; have g3 := hg.bu; have g4 := hg.ch; have g5 := hg.wi; have g6 := hg.st
    dsimp only at *
    obtain ⟨wk, rfl⟩ : ∃ m : Nat, wk = m := ⟨wk.toNat, by omega⟩
    obtain ⟨mi, rfl⟩ : ∃ m : Nat, mi = m := ⟨mi.toNat, by omega⟩
    obtain ⟨sp, rfl⟩ : ∃ m : Nat, sp = m := ⟨sp.toNat, by omega⟩
    obtain ⟨bu, rfl⟩ : ∃ m : Nat, bu = m := ⟨bu.toNat, by omega⟩
    obtain ⟨ch, rfl⟩ : ∃ m : Nat, ch = m := ⟨ch.toNat, by omega⟩
    obtain ⟨wi, rfl⟩ : ∃ m : Nat, wi = m := ⟨wi.toNat, by omega⟩
    obtain ⟨n, rfl⟩ : ∃ m : Nat, n = m := ⟨n.toNat, by omega⟩
    have hp : PlnOk ⟨wk, mi, bu, ch, wi, n⟩ := ⟨by simp only; omega, by simp only; omega, by simp only; omega, by simp only; omega, by simp only; omega, by simp only; omega, by simp only; omega, by simp only; omega⟩
    have hst' : stpN ⟨sz, sh, ra, mo, wk, ba, mi, sp, bu, ch, wi, ca⟩ n = totN ⟨wk, mi, bu, ch, wi, n⟩ * sp := hst
    have hck : ∀ w', Below w.heap.size w w' → Calls Try.prog 18 #[.agg (cfgVals A c ⟨sz, sh, ra, mo, wk, ba, mi, sp, bu, ch, wi, ca⟩)] w' fun e w'' => e = .returned (.int .i64 0) ∧ Below w'.heap.size w' w'' := fun w' q => by
      have := check_any A c ⟨sz, sh, ra, mo, wk, ba, mi, sp, bu, ch, wi, ca⟩ w' (h.below q)
      rwa [hr2.1] at this
    have htl : totN ⟨wk, mi, bu, ch, wi, n⟩ ≤ 810000 := by
      have h1 := hp.buks
      have h2 := sumT_le hp (Nat.le_refl (Pln.buks ⟨wk, mi, bu, ch, wi, n⟩).length)
      have : wk * (mi + 2 * (Pln.buks ⟨wk, mi, bu, ch, wi, n⟩).length + 1) ≤ 8 * 141 := Nat.mul_le_mul (by omega) (by omega)
      unfold totN; dsimp only; omega
    have hyl : totN ⟨wk, mi, bu, ch, wi, n⟩ * sp ≤ 810000 * 12 := Nat.mul_le_mul htl (by omega)
    have hzl : totN ⟨wk, mi, bu, ch, wi, n⟩ * sp * wk ≤ 810000 * 12 * 8 := Nat.mul_le_mul hyl (by omega)
    refine ⟨fun w' q => ?_, fun w' q => ?_, fun w' q => ?_, ?_⟩
    · rw [hst']
      exact rsteps_of A c _ n w' (h.below q) _ (fun _ w'' q' => rtot_any ⟨wk, mi, bu, ch, wi, n⟩ sp (.slice A sz.length c) (.int .i64 sh) (.int .i64 ra) (.int .i64 mo) (.int .i64 ba) (.int .i64 ca) w'' hp (by simp only; omega) (by simp only; omega) (by omega)) (fun e => by rw [hr] at e; cases e)
    · rw [hst']
      exact bsteps_good ⟨wk, mi, bu, ch, wi, n⟩ sp (.slice A sz.length c) (.int .i64 sh) (.int .i64 ra) (.int .i64 mo) (.int .i64 ba) (.int .i64 ca) w' hp (by simp only; omega) (by simp only; omega) (by simp only; omega) (by omega) (fun w'' q' => hck w'' (bt q q'))
    · rw [hst']
      have := bpicks_good ⟨wk, mi, bu, ch, wi, n⟩ sp (.slice A sz.length c) (.int .i64 sh) (.int .i64 ra) (.int .i64 mo) (.int .i64 ba) (.int .i64 ca) w' hp (by simp only; omega) (by simp only; omega) (by simp only; omega) (by omega) (fun w'' q' => hck w'' (bt q q'))
      rw [Int.natCast_mul] at this
      exact this
    · rw [hst']
      have e : ((totN ⟨wk, mi, bu, ch, wi, n⟩ * sp : Nat) : Int) * (wk : Int) = ((totN ⟨wk, mi, bu, ch, wi, n⟩ * sp * wk : Nat) : Int) := (Int.natCast_mul _ _).symm
      dsimp only
      rw [e]
      omega
  · have hr' : rightQ k n = false := by simpa using hr
    have hst : stpN k n = 0 := if_neg hr
    have hb : cfgCode k ≠ 0 ∨ n < 1 ∨ 1048576 < n := by
      unfold rightQ at hr
      simp only [Bool.and_eq_true, decide_eq_true_eq] at hr
      by_cases h1 : cfgCode k = 0
      · right; omega
      · exact .inl h1
    refine ⟨fun w' q => ?_, fun w' q => ?_, fun w' q => ?_, ?_⟩
    · rw [hst]
      exact rsteps_of A c k n w' (h.below q) 0 (fun e => by rw [hr'] at e; cases e) (fun _ => rfl)
    · rw [hst]
      exact bsteps_bad _ _ _ _ _ _ _ _ _ _ _ _ n (cfgCode k) w' hb (fun w'' q' => check_any A c k w'' (h.below (bt q q')))
    · rw [hst]
      have := bpicks_bad (.slice A k.sizes.length c) (.int .i64 k.shift) (.int .i64 k.rate) (.int .i64 k.mom) k.workers (.int .i64 k.batch) (.int .i64 k.micros) (.int .i64 k.steps) (.int .i64 k.bucket) (.int .i64 k.chunk) (.int .i64 k.window) (.int .i64 k.cap) n (cfgCode k) w' hb (fun w'' q' => check_any A c k w'' (h.below (bt q q')))
      simpa using this
    · rw [hst]; simp
end Go.Proofs.Ytaccfnffmbndhaa
