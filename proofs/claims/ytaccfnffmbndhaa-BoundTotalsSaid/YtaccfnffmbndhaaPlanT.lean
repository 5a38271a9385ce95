/- plan.New of a wrong configuration; Total. -/
import Derived.Test.YtaccfnffmbndhaaPlanN
set_option linter.unusedSimpArgs false
set_option linter.unusedVariables false
namespace Go.Proofs.Ytaccfnffmbndhaa
open Go.RowKit

set_option maxRecDepth 100000 in
theorem pnew_bad (b0 b1 b2 b3 b4 b5 b6 b7 b8 b9 b10 b11 : Value) (n code : Int) (w : World) (hb : code ≠ 0 ∨ n < 1 ∨ 1048576 < n)
    (hck : ∀ w', Below w.heap.size w w' → Calls Try.prog 18 #[.agg #[b0, b1, b2, b3, b4, b5, b6, b7, b8, b9, b10, b11]] w' fun e w'' => e = .returned (.int .i64 code) ∧ Below w'.heap.size w' w'') :
    Calls Try.prog 12 #[.agg #[b0, b1, b2, b3, b4, b5, b6, b7, b8, b9, b10, b11], .int .i64 n] w fun e w' => e = .returned (.tuple #[.pointer none, .bool false]) ∧ Below w.heap.size w w' := by
  obtain ⟨W0, hW0⟩ : ∃ W0, w.alloc (.cells #[b0, b1, b2, b3, b4, b5, b6, b7, b8, b9, b10, b11] 24) = W0 := ⟨_, rfl⟩
  have hB0 : Below w.heap.size w W0 := by rw [← hW0]; exact (br w).alloc (Nat.le_refl _) _
  have hc0 := hck W0 hB0
  have HW0 := Lib.hid hW0; have HB0 := Lib.hid hB0; have HC0 := Lib.hid hc0
  clear hW0 hB0 hc0 hck
  by_cases h1 : code = 0
  · subst h1
    by_cases h2 : n < 1
    · go_enter Try.func12, Try.ntmps12
      go_wp2_with fail
      rw [HW0.out]
      refine HC0.out.mono ?_
      rintro e w1 ⟨rfl, k1⟩
      have HB := Lib.hid (HB0.out.trans (k1.mono HB0.out.size))
      clear k1
      go_wp2_with fail
      go_ret2
      exact ⟨rfl, HB.out⟩
    · have h3 : 1048576 < n := by rcases hb with h | h | h <;> first | exact absurd rfl h | exact absurd h h2 | exact h
      go_enter Try.func12, Try.ntmps12
      go_wp2_with fail
      rw [HW0.out]
      refine HC0.out.mono ?_
      rintro e w1 ⟨rfl, k1⟩
      have HB := Lib.hid (HB0.out.trans (k1.mono HB0.out.size))
      clear k1
      go_wp2_with fail
      go_ret2
      exact ⟨rfl, HB.out⟩
  · go_enter Try.func12, Try.ntmps12
    go_wp2_with fail
    rw [HW0.out]
    refine HC0.out.mono ?_
    rintro e w1 ⟨rfl, k1⟩
    have HB := Lib.hid (HB0.out.trans (k1.mono HB0.out.size))
    clear k1
    go_wp2_with fail
    go_ret2
    exact ⟨rfl, HB.out⟩

/-- The first k buckets' part of the number of items. -/
def sumT (p : Pln) (k : Nat) : Nat := ((p.buks.take k).map fun b => 4 * (p.W - 1) * msgsN b p.W p.ck).sum
theorem sumT_succ {p : Pln} {k : Nat} (hk : k < p.buks.length) : sumT p (k + 1) = sumT p k + 4 * (p.W - 1) * msgsN (rgAt p.buks k) p.W p.ck := by
  unfold sumT
  rw [List.take_succ_eq_append_getElem hk, ← rgAt_eq _ _ hk]
  simp
theorem msgsN_le {p : Pln} (hp : PlnOk p) (k : Nat) : msgsN (rgAt p.buks k) p.W p.ck ≤ 480 := by
  rw [msgsN_eq]
  have h : ∀ n, sumN' n (fun s => (chR (rgAt (segR (rgAt p.buks k) p.W) s) p.ck).length) ≤ n * 60 := by
    intro n
    induction n with
    | zero => simp [sumN']
    | succ n ih =>
      rw [sumN'_succ]
      have := chR_le (c := p.ck) (s := n) hp.W1 (hp.buk k).1 (hp.buk k).2
      omega
  have := h p.W
  have := hp.W8
  omega
theorem sumT_le {p : Pln} (hp : PlnOk p) : ∀ {k : Nat}, k ≤ p.buks.length → sumT p k ≤ k * 13440
  | 0, _ => by simp [sumT]
  | k + 1, hk => by
    rw [sumT_succ (by omega)]
    have h1 := sumT_le hp (k := k) (by omega)
    have h2 := msgsN_le hp k
    have h3 : 4 * (p.W - 1) * msgsN (rgAt p.buks k) p.W p.ck ≤ 28 * 480 := Nat.mul_le_mul (by have := hp.W8; omega) h2
    omega
/-- The number of items of a step, by the formula. -/
def totN (p : Pln) : Nat := p.W * (p.mi + 2 * p.buks.length + 1) + sumT p p.buks.length
theorem totN_eq {p : Pln} (hp : PlnOk p) (st : Nat) : sumN' p.W (fun w => (itemsL p w st).length) = totN p := by
  rw [items_all p st hp.wi, totN, sumT, List.take_length]
theorem total_nil (w : World) : Calls Try.prog 13 #[.pointer none] w fun e w' => e = .returned (.int .i64 0) ∧ w = w' := by
  go_enter Try.func13, Try.ntmps13
  go_wp2
  go_ret
  exact ⟨rfl, rfl⟩
set_option maxRecDepth 100000 in
set_option maxHeartbeats 4000000 in
theorem total_any (p : Pln) (stp P : Nat) (a0 a1 a2 a3 a5 a11 : Value) (w : World) (hp : PlnOk p) (hst : stp ≤ 12) (hP : PlanAt w P p a0 a1 a2 a3 a5 (.int .i64 (stp : Nat)) a11) :
    Calls Try.prog 13 #[.pointer (some ⟨P, 0, none⟩)] w fun e w' => e = .returned (.int .i64 ((totN p * stp : Nat) : Int)) ∧ Below w.heap.size w w' := by
  obtain ⟨BA, bc, GA, gc, LA, lc, hb, hB, hG, hL⟩ := hP
  have tP := fun w' q => bx15 (sb hb w' q)
  obtain ⟨Lb, hLb⟩ : ∃ Lb, p.buks.length = Lb := ⟨_, rfl⟩
  have hbl := hp.buks; have hW1 := hp.W1; have hW8 := hp.W8; have hmi := hp.mi; have hck := hp.ck; have hck2 := hp.ck2
  have hsl := fun k (h : k ≤ p.buks.length) => sumT_le hp h
  have hss := fun k (h : k < p.buks.length) => sumT_succ (p := p) h
  have hml := fun k => msgsN_le hp k
  have hbk := fun k => hp.buk k
  rw [hLb] at hbl hsl hss
  obtain ⟨a, ha⟩ : ∃ a, 2 * Lb = a := ⟨_, rfl⟩
  obtain ⟨b, hb'⟩ : ∃ b, p.mi + a = b := ⟨_, rfl⟩
  obtain ⟨c, hc⟩ : ∃ c, b + 1 = c := ⟨_, rfl⟩
  obtain ⟨X, hX⟩ : ∃ X, p.W * c = X := ⟨_, rfl⟩
  have h1 : (2 : Int) * (Lb : Int) = (a : Int) := by omega
  have h2 : (p.mi : Int) + (a : Int) = (b : Int) := by omega
  have h3 : (b : Int) + 1 = (c : Int) := by omega
  have h4 : (p.W : Int) * (c : Int) = (X : Int) := by rw [← hX]; push_cast; rfl
  have hXl : X ≤ 8 * 141 := by rw [← hX]; exact Nat.mul_le_mul hW8 (by omega)
  have w1 : IntKind.i64.wrap (a : Int) = a := IntWalk.i64_in _ (by omega)
  have w2 : IntKind.i64.wrap (b : Int) = b := IntWalk.i64_in _ (by omega)
  have w3 : IntKind.i64.wrap (c : Int) = c := IntWalk.i64_in _ (by omega)
  have w4 : IntKind.i64.wrap (X : Int) = X := IntWalk.i64_in _ (by omega)
  have htot : totN p = X + sumT p Lb := by unfold totN; rw [hLb, ha, hb', hc, hX]
  rw [hLb] at tP
  have HB := Lib.hid hB; have Hsl := Lib.hid hsl; have Hss := Lib.hid hss; have Hml := Lib.hid hml; have Hbk := Lib.hid hbk; have Htot := Lib.hid htot; have HLb := Lib.hid hLb; have Hb := Lib.hid hb
  have q0 := br w
  clear hb hB hG hL hsl hss hml hbk htot hLb ha hb' hc hX
  go_enter Try.func13, Try.ntmps13
  go_wp2_with fail
  refine HA.g (fun w' : World => Below w.heap.size w w') ?_
  refine HA.t ?_ [0, 1, 2, 3, 4, 5, 6, 7, 8, 9, 10, 11, 12, 13, 14, 15, 16, 17, 18, 19, 20, 21, 22] q0.drew ?_
  refine HA.d ?_
  have q1 := q0.drew
  have Q1 := Lib.hid q1
  go_wp2_with fail
  clear q0 q1 h1 h2 h3 h4 w1 w2 w3 w4
  obtain ⟨m, hm⟩ : ∃ m, p.W - 1 = m := ⟨_, rfl⟩
  obtain ⟨f, hf⟩ : ∃ f, 4 * m = f := ⟨_, rfl⟩
  have h1 : (p.W : Int) - 1 = (m : Int) := by omega
  have h2 : (4 : Int) * (m : Int) = (f : Int) := by omega
  have w1 : IntKind.i64.wrap (m : Int) = m := IntWalk.i64_in _ (by omega)
  have w2 : IntKind.i64.wrap (f : Int) = f := IntWalk.i64_in _ (by omega)
  have hfl : f ≤ 28 := by omega
  have Hm := Lib.hid hm; have Hf := Lib.hid hf
  clear hm hf
  go_loopw [3, 36] (fun n y wr => ∃ k : Nat, k ≤ Lb ∧ y = .int .i64 k ∧ n = .int .i64 ((X + sumT p k : Nat) : Int) ∧ Below w.heap.size w wr) (fun _ y _ => Lb - (intOf y).toNat)
  case atStart => exact ⟨0, Nat.zero_le _, rfl, by simp [sumT], Q1.out⟩
  case round =>
    obtain ⟨k, hk, rfl, rfl, q⟩ := hrel
    have hsk := Hsl.out k hk
    by_cases hlt : k < Lb
    · have hki : (k : Int) < Lb := by omega
      have hw1 : IntKind.i64.wrap ((k : Int) + 1) = ((k + 1 : Nat) : Int) := by rw [IntWalk.i64_in _ (by omega)]; push_cast; rfl
      have hkl : k < p.buks.length := by rw [HLb.out]; exact hlt
      have hrv := rgVals_get hkl
      obtain ⟨bb, bo, rfl, cb0⟩ := HB.out _ _ hrv.1
      obtain ⟨bb', bo', e', cb1⟩ := HB.out _ _ hrv.2
      obtain ⟨rfl, rfl⟩ : bb' = bb ∧ bo' = bo := by simpa using e'.symm
      rw [← Nat.add_assoc] at cb1
      have hbl2 := Hbk.out k
      have hml2 := Hml.out k
      have hss2 := Hss.out k hlt
      obtain ⟨b1, b2, hbb⟩ : ∃ b1 b2, rgAt p.buks k = (b1, b2) := ⟨_, _, rfl⟩
      rw [hbb] at cb0 cb1 hbl2 hml2 hss2
      dsimp only at cb0 cb1 hbl2
      have d0 := fun w' (q : Below w.heap.size w w') => cell_below q cb0
      have d1 := fun w' (q : Below w.heap.size w w') => cell_below q cb1
      obtain ⟨W6, hW6⟩ : ∃ W6, wr.alloc (.cells #[.int .i64 (b1 : Nat), .int .i64 (b2 : Nat)] 54) = W6 := ⟨_, rfl⟩
      have h6 : W6.heap[wr.heap.size]? = some (.cells #[.int .i64 (b1 : Nat), .int .i64 (b2 : Nat)] 54 (0, 0)) := by rw [← hW6]; exact heap_alloc_new wr _
      have k6 : Below wr.heap.size wr W6 := by rw [← hW6]; exact (br wr).alloc (Nat.le_refl _) _
      have q6 := bt q k6
      have t6 := fun w' q => bx2 (sb h6 w' q)
      have u6 := fun w' (q : Below W6.heap.size W6 w') => tP w' (bt q6 q)
      obtain ⟨z, hz⟩ : ∃ z, msgsN (b1, b2) p.W p.ck = z := ⟨_, rfl⟩
      have hmsg := msgs_any b1 b2 p.W p.ck
      rw [hz] at hml2 hss2 hmsg
      obtain ⟨y, hy⟩ : ∃ y, f * z = y := ⟨_, rfl⟩
      rw [Hm.out, Hf.out, hy] at hss2
      obtain ⟨s0, hs0⟩ : ∃ s0, X + sumT p k = s0 := ⟨_, rfl⟩
      rw [hs0]
      have h5 : (f : Int) * (z : Int) = (y : Int) := by rw [← hy]; push_cast; rfl
      have hyl : y ≤ 28 * 480 := by rw [← hy]; exact Nat.mul_le_mul hfl hml2
      have w5 : IntKind.i64.wrap (y : Int) = y := IntWalk.i64_in _ (by omega)
      have w6 : IntKind.i64.wrap ((s0 : Int) + (y : Int)) = (s0 : Int) + y := IntWalk.i64_in _ (by omega)
      have Hss2 := Lib.hid hss2; have Hs0 := Lib.hid hs0; have Hmsg := Lib.hid hmsg; have HW6 := Lib.hid hW6; have Q6 := Lib.hid q6
      have q66 := br W6
      clear hrv e' hbb hz hy hss2 hs0 hmsg hW6 h6 k6 q6
      go_wp2_with fail
      rw [HW6.out]
      clear d0 d1 cb0 cb1
      refine HA.g (fun w' : World => Below W6.heap.size W6 w') ?_
      refine HA.t ?_ [0, 1, 2, 3, 4, 5, 6, 7, 8, 9, 10, 11, 12, 13, 14, 15, 16, 17, 18, 19, 20, 21] q66.drew ?_
      refine HA.c 22 (Hmsg.out _ hW1 (by omega) (by omega) (by omega) hck hck2) ?_
      rintro e w7 ⟨rfl, k7⟩
      have q7 := bt q66.drew k7
      refine ⟨_, rfl, q7, fun _ => ?_⟩
      refine HA.t ?_ [23, 24, 25] q7 ?_
      refine HA.d ?_
      have Q8 := Lib.hid (bt Q6.out q7)
      clear t6 u6 q7 k7 q66 q
      go_wp2_with fail
      go_roundw
      case rel => exact ⟨k + 1, by omega, by go_num, by have := Hs0.out; rw [Hss2.out, ← Nat.add_assoc, this]; push_cast; rfl, Q8.out⟩
      case measure => simp [intOf]; omega
    · have hki : ¬ ((k : Int) < Lb) := by omega
      have hke : k = Lb := by omega
      rw [hke] at hsk ⊢
      rw [← Htot.out]
      have htl : totN p ≤ 810000 := by rw [Htot.out]; omega
      obtain ⟨t, ht⟩ : ∃ t, totN p = t := ⟨_, rfl⟩
      rw [ht] at htl ⊢
      obtain ⟨y, hy⟩ : ∃ y, t * stp = y := ⟨_, rfl⟩
      have Hy : Hid (totN p * stp = y) := Lib.hid (by rw [ht]; exact hy)
      have h5 : (t : Int) * (stp : Int) = (y : Int) := by rw [← hy]; push_cast; rfl
      have hyl : y ≤ 810000 * 12 := by rw [← hy]; exact Nat.mul_le_mul htl hst
      have w5 : IntKind.i64.wrap (y : Int) = y := IntWalk.i64_in _ (by omega)
      have HQ := Lib.hid q
      clear hy ht
      go_wp2_with fail
      go_ret
      exact ⟨ret_int (by rw [← Hy.out]; push_cast; rfl), HQ.out⟩
end Go.Proofs.Ytaccfnffmbndhaa
