/- The reference's Right, Few, Total and Steps. -/
import Derived.Test.YtaccfnffmbndhaaRef11
import Derived.Test.YtaccfnffmbndhaaRef20I
import Derived.Test.YtaccfnffmbndhaaPlanT
set_option linter.unusedSimpArgs false
set_option linter.unusedVariables false
namespace Go.Proofs.Ytaccfnffmbndhaa
open Go.RowKit

/-- Is there a plan? -/
noncomputable def rightQ (k : Cfg) (n : Int) : Bool := decide (cfgCode k = 0) && (decide (1 ≤ n) && decide (n ≤ 1048576))
set_option maxRecDepth 100000 in
theorem rright_any (A : Option Addr) (c : Nat) (k : Cfg) (n : Int) (w : World) (h : CfgRd w A c k) :
    Calls Try.prog 9 #[.agg #[.slice A k.sizes.length c, .int .i64 k.shift, .int .i64 k.rate, .int .i64 k.mom, .int .i64 k.workers, .int .i64 k.batch, .int .i64 k.micros, .int .i64 k.steps, .int .i64 k.bucket, .int .i64 k.chunk, .int .i64 k.window, .int .i64 k.cap, .int .i64 n]] w fun e w' => e = .returned (.bool (rightQ k n)) ∧ Below w.heap.size w w' := by
  obtain ⟨W0, hW0⟩ : ∃ W0, w.alloc (.cells #[.slice A k.sizes.length c, .int .i64 k.shift, .int .i64 k.rate, .int .i64 k.mom, .int .i64 k.workers, .int .i64 k.batch, .int .i64 k.micros, .int .i64 k.steps, .int .i64 k.bucket, .int .i64 k.chunk, .int .i64 k.window, .int .i64 k.cap, .int .i64 n] 26) = W0 := ⟨_, rfl⟩
  have g0 : W0.heap[w.heap.size]? = some (.cells #[.slice A k.sizes.length c, .int .i64 k.shift, .int .i64 k.rate, .int .i64 k.mom, .int .i64 k.workers, .int .i64 k.batch, .int .i64 k.micros, .int .i64 k.steps, .int .i64 k.bucket, .int .i64 k.chunk, .int .i64 k.window, .int .i64 k.cap, .int .i64 n] 26 (0, 0)) := by rw [← hW0]; exact heap_alloc_new w _
  have hB0 : Below w.heap.size w W0 := by rw [← hW0]; exact (br w).alloc (Nat.le_refl _) _
  have hc := rcfg_any A c k W0 (h.below hB0)
  have t0 := fun w' q => bx13 (sb g0 w' q)
  have HW0 := Lib.hid hW0; have HB0 := Lib.hid hB0; have Hc := Lib.hid hc
  have q0 := br W0
  clear hW0 g0 hB0 hc h
  unfold rightQ
  obtain ⟨code, hcode⟩ : ∃ code, cfgCode k = code := ⟨_, rfl⟩
  rw [hcode] at Hc ⊢
  clear hcode
  by_cases h1 : code = 0
  · by_cases h2 : 1 ≤ n
    · by_cases h3 : n ≤ 1048576
      · go_enter Try.func9, Try.ntmps9
        go_wp2_with fail
        rw [HW0.out]
        refine Hc.out.mono ?_
        rintro e w1 ⟨rfl, k1⟩
        have q1 := bt q0 k1
        have HB := Lib.hid (HB0.out.trans (q1.mono HB0.out.size))
        clear k1
        go_wp2_with fail
        go_ret
        exact ⟨by simp [h1, h2, h3], HB.out⟩
      · go_enter Try.func9, Try.ntmps9
        go_wp2_with fail
        rw [HW0.out]
        refine Hc.out.mono ?_
        rintro e w1 ⟨rfl, k1⟩
        have q1 := bt q0 k1
        have HB := Lib.hid (HB0.out.trans (q1.mono HB0.out.size))
        clear k1
        go_wp2_with fail
        go_ret
        exact ⟨by rw [show decide (n ≤ 1048576) = false from decide_eq_false (by omega)]; simp, HB.out⟩
    · go_enter Try.func9, Try.ntmps9
      go_wp2_with fail
      rw [HW0.out]
      refine Hc.out.mono ?_
      rintro e w1 ⟨rfl, k1⟩
      have q1 := bt q0 k1
      have HB := Lib.hid (HB0.out.trans (q1.mono HB0.out.size))
      clear k1
      go_wp2_with fail
      go_ret
      exact ⟨by rw [show decide (1 ≤ n) = false from decide_eq_false (by omega)]; simp, HB.out⟩
  · go_enter Try.func9, Try.ntmps9
    go_wp2_with fail
    rw [HW0.out]
    refine Hc.out.mono ?_
    rintro e w1 ⟨rfl, k1⟩
    have q1 := bt q0 k1
    have HB := Lib.hid (HB0.out.trans (q1.mono HB0.out.size))
    clear k1
    go_wp2_with fail
    go_ret
    exact ⟨by simp [h1], HB.out⟩
/-- What a small plan is. -/
def SmallP (k : Cfg) (n : Int) (r : Bool) : Prop := r = true → n ≤ 60 ∧ k.workers ≤ 8 ∧ k.micros ≤ 20 ∧ k.steps ≤ 12
def FewP (q : Prop) (w : World) (e : Ending) (w' : World) : Prop := (∃ b : Bool, e = .returned (.bool b) ∧ (b = true → q)) ∧ Below w.heap.size w w'
set_option maxRecDepth 100000 in
theorem rfew20_any (A : Option Addr) (c : Nat) (k : Cfg) (n : Int) (w : World) (h : CfgRd w A c k) :
    Calls Try.prog 4 #[.agg #[.slice A k.sizes.length c, .int .i64 k.shift, .int .i64 k.rate, .int .i64 k.mom, .int .i64 k.workers, .int .i64 k.batch, .int .i64 k.micros, .int .i64 k.steps, .int .i64 k.bucket, .int .i64 k.chunk, .int .i64 k.window, .int .i64 k.cap, .int .i64 n]] w (FewP (SmallP k n (rightQ k n)) w) := by
  obtain ⟨W0, hW0⟩ : ∃ W0, w.alloc (.cells #[.slice A k.sizes.length c, .int .i64 k.shift, .int .i64 k.rate, .int .i64 k.mom, .int .i64 k.workers, .int .i64 k.batch, .int .i64 k.micros, .int .i64 k.steps, .int .i64 k.bucket, .int .i64 k.chunk, .int .i64 k.window, .int .i64 k.cap, .int .i64 n] 26) = W0 := ⟨_, rfl⟩
  have g0 : W0.heap[w.heap.size]? = some (.cells #[.slice A k.sizes.length c, .int .i64 k.shift, .int .i64 k.rate, .int .i64 k.mom, .int .i64 k.workers, .int .i64 k.batch, .int .i64 k.micros, .int .i64 k.steps, .int .i64 k.bucket, .int .i64 k.chunk, .int .i64 k.window, .int .i64 k.cap, .int .i64 n] 26 (0, 0)) := by rw [← hW0]; exact heap_alloc_new w _
  have hB0 : Below w.heap.size w W0 := by rw [← hW0]; exact (br w).alloc (Nat.le_refl _) _
  have hc := rright_any A c k n W0 (h.below hB0)
  have t0 := fun w' q => bx13 (sb g0 w' q)
  have HW0 := Lib.hid hW0; have HB0 := Lib.hid hB0; have Hc := Lib.hid hc
  have q0 := br W0
  clear hW0 g0 hB0 hc h
  obtain ⟨r, hr⟩ : ∃ r, rightQ k n = r := ⟨_, rfl⟩
  rw [hr] at Hc ⊢
  clear hr
  obtain ⟨L, hL⟩ : ∃ L, k.sizes.length = L := ⟨_, rfl⟩
  rw [hL] at HW0 Hc t0 ⊢
  clear hL
  by_cases hl : (L : Int) ≤ 40
  · have hl' : ¬ (40 < (L : Int)) := by omega
    cases r with
    | false =>
      go_enter Try.func4, Try.ntmps4
      go_wp2_with fail
      rw [HW0.out]
      refine Hc.out.mono ?_
      rintro e w1 ⟨rfl, k1⟩
      have q1 := bt q0 k1
      have HB := Lib.hid (HB0.out.trans (q1.mono HB0.out.size))
      clear k1
      go_wp2_with fail
      go_ret
      exact ⟨⟨_, rfl, fun _ h => by cases h⟩, HB.out⟩
    | true =>
      have fin : ∀ b : Bool, (b = true → n ≤ 60 ∧ k.workers ≤ 8 ∧ k.micros ≤ 20 ∧ k.steps ≤ 12) → b = true → SmallP k n true := fun b hb hb' _ => hb hb'
      have Fin := Lib.hid fin
      clear fin
      by_cases h1 : n ≤ 60
      · by_cases h2 : k.workers ≤ 8
        · by_cases h3 : k.micros ≤ 20
          · go_enter Try.func4, Try.ntmps4
            go_wp2_with fail
            rw [HW0.out]
            refine Hc.out.mono ?_
            rintro e w1 ⟨rfl, k1⟩
            have q1 := bt q0 k1
            have HB := Lib.hid (HB0.out.trans (q1.mono HB0.out.size))
            clear k1
            go_wp2_with fail
            go_ret
            exact ⟨⟨_, rfl, Fin.out _ (fun hb => ⟨h1, h2, h3, by simpa using hb⟩)⟩, HB.out⟩
          · go_enter Try.func4, Try.ntmps4
            go_wp2_with fail
            rw [HW0.out]
            refine Hc.out.mono ?_
            rintro e w1 ⟨rfl, k1⟩
            have q1 := bt q0 k1
            have HB := Lib.hid (HB0.out.trans (q1.mono HB0.out.size))
            clear k1
            go_wp2_with fail
            go_ret
            exact ⟨⟨_, rfl, fun hb => by simp [h3] at hb⟩, HB.out⟩
        · go_enter Try.func4, Try.ntmps4
          go_wp2_with fail
          rw [HW0.out]
          refine Hc.out.mono ?_
          rintro e w1 ⟨rfl, k1⟩
          have q1 := bt q0 k1
          have HB := Lib.hid (HB0.out.trans (q1.mono HB0.out.size))
          clear k1
          go_wp2_with fail
          go_ret
          exact ⟨⟨_, rfl, fun hb => by simp [h2] at hb⟩, HB.out⟩
      · go_enter Try.func4, Try.ntmps4
        go_wp2_with fail
        rw [HW0.out]
        refine Hc.out.mono ?_
        rintro e w1 ⟨rfl, k1⟩
        have q1 := bt q0 k1
        have HB := Lib.hid (HB0.out.trans (q1.mono HB0.out.size))
        clear k1
        go_wp2_with fail
        go_ret
        exact ⟨⟨_, rfl, fun hb => by simp [h1] at hb⟩, HB.out⟩
  · have hl' : 40 < (L : Int) := by omega
    go_enter Try.func4, Try.ntmps4
    go_wp2_with fail
    rw [HW0.out]
    try go_wp2_with fail
    go_ret
    exact ⟨⟨_, rfl, fun hb => by simp at hb⟩, HB0.out⟩
theorem itemsL_le {p : Pln} (hp : PlnOk p) (x st : Nat) : (itemsL p x st).length ≤ 8000000 := by
  have h1 := grpsL_le hp x st (Nat.le_refl p.grps.length)
  have h2 := hp.grps
  have : (itemsL p x st).length = (grpsL p x st p.grps.length).length + 1 := by simp [itemsL, grpsL]; omega
  omega
set_option maxRecDepth 100000 in
set_option maxHeartbeats 1000000 in
theorem rtot_any (p : Pln) (stp : Nat) (a0 a1 a2 a3 a5 a11 : Value) (w : World) (hp : PlnOk p) (hbu : p.bu ≤ 1048576) (hwi : p.wi ≤ 1048576) (hst : stp ≤ 12) :
    Calls Try.prog 11 #[.agg #[a0, a1, a2, a3, .int .i64 (p.W : Nat), a5, .int .i64 (p.mi : Nat), .int .i64 (stp : Nat), .int .i64 (p.bu : Nat), .int .i64 (p.ck : Nat), .int .i64 (p.wi : Nat), a11, .int .i64 (p.n : Nat)]] w fun e w' => e = .returned (.int .i64 ((totN p * stp : Nat) : Int)) ∧ Below w.heap.size w w' := by
  obtain ⟨W0, hW0⟩ : ∃ W0, w.alloc (.cells #[a0, a1, a2, a3, .int .i64 (p.W : Nat), a5, .int .i64 (p.mi : Nat), .int .i64 (stp : Nat), .int .i64 (p.bu : Nat), .int .i64 (p.ck : Nat), .int .i64 (p.wi : Nat), a11, .int .i64 (p.n : Nat)] 26) = W0 := ⟨_, rfl⟩
  have g0 : W0.heap[w.heap.size]? = some (.cells #[a0, a1, a2, a3, .int .i64 (p.W : Nat), a5, .int .i64 (p.mi : Nat), .int .i64 (stp : Nat), .int .i64 (p.bu : Nat), .int .i64 (p.ck : Nat), .int .i64 (p.wi : Nat), a11, .int .i64 (p.n : Nat)] 26 (0, 0)) := by rw [← hW0]; exact heap_alloc_new w _
  have hB0 : Below w.heap.size w W0 := by rw [← hW0]; exact (br w).alloc (Nat.le_refl _) _
  have t0 := fun w' q => bx13 (sb g0 w' q)
  have htot := totN_eq hp 0
  have hW8 := hp.W8
  have hil := fun x => itemsL_le hp x 0
  have hit : ∀ x w', x < p.W → Calls Try.prog 17 #[.agg #[a0, a1, a2, a3, .int .i64 (p.W : Nat), a5, .int .i64 (p.mi : Nat), .int .i64 (stp : Nat), .int .i64 (p.bu : Nat), .int .i64 (p.ck : Nat), .int .i64 (p.wi : Nat), a11, .int .i64 (p.n : Nat)], .int .i64 (x : Nat), .int .i64 0] w' fun e w'' => ∃ v, e = .returned v ∧ w''.ownsRow w'.heap.size 64 12 v (itemsL p x 0).length (itVals (itemsL p x 0)) ∧ Below w'.heap.size w' w'' := fun x w' hx => ritems_any p 0 x a0 a1 a2 a3 a5 (.int .i64 (stp : Nat)) a11 w' hp hbu hwi hx
  have HW0 := Lib.hid hW0; have HB0 := Lib.hid hB0; have Htot := Lib.hid htot; have Hil := Lib.hid hil; have Hit := Lib.hid hit
  have q0 := br W0
  clear hW0 g0 hB0 htot hil hit
  go_enter Try.func11, Try.ntmps11
  go_wp2_with fail
  rw [HW0.out]
  go_loopw [3, 4] (fun n y wr => ∃ k : Nat, k ≤ p.W ∧ y = .int .i64 k ∧ n = .int .i64 (sumN' k (fun x => (itemsL p x 0).length) : Nat) ∧ sumN' k (fun x => (itemsL p x 0).length) ≤ k * 8000000 ∧ Below W0.heap.size W0 wr) (fun _ y _ => p.W - (intOf y).toNat)
  case atStart => exact ⟨0, Nat.zero_le _, rfl, by simp [sumN'], by simp [sumN'], q0⟩
  case round =>
    obtain ⟨k, hk, rfl, rfl, hsl, q⟩ := hrel
    by_cases hlt : k < p.W
    · have hki : (k : Int) < p.W := by omega
      have hw1 : IntKind.i64.wrap ((k : Int) + 1) = ((k + 1 : Nat) : Int) := by rw [IntWalk.i64_in _ (by omega)]; push_cast; rfl
      have hsu := sumN'_succ k (fun x => (itemsL p x 0).length)
      have hl := Hil.out k
      have hc := Hit.out k wr hlt
      obtain ⟨s, hs⟩ : ∃ s, sumN' k (fun x => (itemsL p x 0).length) = s := ⟨_, rfl⟩
      rw [hs] at hsl hsu ⊢
      try dsimp only at hsu
      obtain ⟨m, hm⟩ : ∃ m, (itemsL p k 0).length = m := ⟨_, rfl⟩
      rw [hm] at hl hc hsu
      have Hc := Lib.hid hc; have Hsu := Lib.hid hsu
      clear hc hsu hs hm
      go_wp2_with fail
      refine Hc.out.mono ?_
      rintro e w2 ⟨v2, rfl, o2, k2⟩
      obtain ⟨A2, c2, rfl, _⟩ := own_form o2
      have Q2 := Lib.hid (bt q k2)
      clear o2 k2 q
      go_wp2_with fail
      go_roundw
      case rel => exact ⟨k + 1, by omega, by go_num, by rw [Hsu.out]; push_cast; rfl, by rw [Hsu.out]; omega, Q2.out⟩
      case measure => simp [intOf]; omega
    · have hki : ¬ ((k : Int) < p.W) := by omega
      have hke : k = p.W := by omega
      rw [hke] at hsl ⊢
      rw [Htot.out] at hsl ⊢
      obtain ⟨t, ht⟩ : ∃ t, totN p = t := ⟨_, rfl⟩
      rw [ht] at hsl ⊢
      have htl : t ≤ 64000000 := by omega
      obtain ⟨y, hy⟩ : ∃ y, t * stp = y := ⟨_, rfl⟩
      have Hy : Hid (totN p * stp = y) := Lib.hid (by rw [ht]; exact hy)
      have h5 : (t : Int) * (stp : Int) = (y : Int) := by rw [← hy]; push_cast; rfl
      have hyl : y ≤ 64000000 * 12 := by rw [← hy]; exact Nat.mul_le_mul htl hst
      have w5 : IntKind.i64.wrap (y : Int) = y := IntWalk.i64_in _ (by omega)
      have HQ := Lib.hid (HB0.out.trans (q.mono HB0.out.size))
      clear hy ht hke
      go_wp2_with fail
      go_ret
      exact ⟨ret_int (by rw [← Hy.out]; push_cast; rfl), HQ.out⟩
end Go.Proofs.Ytaccfnffmbndhaa
