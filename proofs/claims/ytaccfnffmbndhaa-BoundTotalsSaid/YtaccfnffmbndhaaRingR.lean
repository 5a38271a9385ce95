/- ring.Round. -/
import Derived.Test.YtaccfnffmbndhaaRingA
set_option linter.unusedSimpArgs false
set_option linter.unusedVariables false
namespace Go.Proofs.Ytaccfnffmbndhaa
open Go.RowKit

/-- The first k rounds of both. -/
def pairK (x y : List Rg) (f g : Nat → Rg → Acn) (k : Nat) : List Acn :=
  (List.range k).flatMap fun i => (if i < x.length then [f i (rgAt x i)] else []) ++ (if i < y.length then [g i (rgAt y i)] else [])
theorem pairK_succ (x y : List Rg) (f g : Nat → Rg → Acn) (k : Nat) : pairK x y f g (k + 1) = pairK x y f g k ++ ((if k < x.length then [f k (rgAt x k)] else []) ++ (if k < y.length then [g k (rgAt y k)] else [])) := by
  simp [pairK, List.range_succ, List.flatMap_append]
theorem pairK_le (x y : List Rg) (f g : Nat → Rg → Acn) (k : Nat) : (pairK x y f g k).length ≤ 2 * k := by
  induction k with
  | zero => simp [pairK]
  | succ k ih =>
    rw [pairK_succ, List.length_append, List.length_append]
    split <;> split <;> simp <;> omega

theorem pairK_add (X Y : List Rg) (st bk ph r m : Nat) : actAdd false m Y st bk ph r (actAdd true m X st bk ph r (pairK X Y (fun i s => (⟨true, false, st, bk, ph, r, i, s⟩ : Acn)) (fun i s => (⟨false, ph == 0, st, bk, ph, r, i, s⟩ : Acn)) m)) = pairK X Y (fun i s => (⟨true, false, st, bk, ph, r, i, s⟩ : Acn)) (fun i s => (⟨false, ph == 0, st, bk, ph, r, i, s⟩ : Acn)) (m + 1) := by
  rw [pairK_succ]
  by_cases h1 : m < X.length <;> by_cases h2 : m < Y.length <;> simp [actAdd, h1, h2]
set_option maxRecDepth 100000 in
set_option maxHeartbeats 1000000 in
theorem round_any (st bk lo hi W c x ph r : Nat) (w : World) (h1 : 1 ≤ W) (h2 : W ≤ 1048576) (hx : x < W) (hp : ph < 2) (hr : r + 1 < W) (h3 : lo ≤ 1048576) (h4 : hi ≤ 1048576) (h5 : 1 ≤ c) (h6 : c ≤ 1048576) :
    Calls Try.prog 47 #[.agg #[.int .i64 (st : Nat), .int .i64 (bk : Nat), .int .i64 (lo : Nat), .int .i64 (hi : Nat), .int .i64 (W : Nat), .int .i64 (c : Nat)], .int .i64 x, .int .i64 ph, .int .i64 r] w fun e w' => ∃ v, e = .returned v ∧ w'.ownsRow w.heap.size 78 9 v (roundL st bk (lo, hi) W c x ph r).length (acnVals (roundL st bk (lo, hi) W c x ph r)) ∧ Below w.heap.size w w' := by
  obtain ⟨W0, hW0⟩ : ∃ W0, ((w.alloc (.cells #[.int .i64 (st : Nat), .int .i64 (bk : Nat), .int .i64 (lo : Nat), .int .i64 (hi : Nat), .int .i64 (W : Nat), .int .i64 (c : Nat)] 97)).alloc (.cells #[.int .i64 ph] 3)).alloc (.cells #[.int .i64 r] 3) = W0 := ⟨_, rfl⟩
  have g0 : W0.heap[w.heap.size]? = some (.cells #[.int .i64 (st : Nat), .int .i64 (bk : Nat), .int .i64 (lo : Nat), .int .i64 (hi : Nat), .int .i64 (W : Nat), .int .i64 (c : Nat)] 97 (0, 0)) := by
    rw [← hW0, Below.heap_alloc _ _ _ (by simp; omega), Below.heap_alloc _ _ _ (by simp)]; exact heap_alloc_new w _
  have g1 : W0.heap[w.heap.size + 1]? = some (.cells #[.int .i64 ph] 3 (0, 0)) := by
    rw [← hW0, Below.heap_alloc _ _ _ (by simp)]; have := heap_alloc_new (w.alloc (.cells #[.int .i64 (st : Nat), .int .i64 (bk : Nat), .int .i64 (lo : Nat), .int .i64 (hi : Nat), .int .i64 (W : Nat), .int .i64 (c : Nat)] 97)) (.cells #[.int .i64 ph] 3); simpa using this
  have g2 : W0.heap[w.heap.size + 1 + 1]? = some (.cells #[.int .i64 r] 3 (0, 0)) := by
    rw [← hW0]; have := heap_alloc_new ((w.alloc (.cells #[.int .i64 (st : Nat), .int .i64 (bk : Nat), .int .i64 (lo : Nat), .int .i64 (hi : Nat), .int .i64 (W : Nat), .int .i64 (c : Nat)] 97)).alloc (.cells #[.int .i64 ph] 3)) (.cells #[.int .i64 r] 3); simpa using this
  have hB0 : Below w.heap.size w W0 := by rw [← hW0]; exact (((br w).alloc (Nat.le_refl _) _).alloc (by simp) _).alloc (by simp; omega) _
  have hs0 : W0.heap.size = w.heap.size + 1 + 1 + 1 := by rw [← hW0]; simp
  have t0 := fun w' q => bx6 (sb g0 w' q)
  have t1 := fun w' q => bx1 (sb g1 w' q)
  have t2 := fun w' q => bx1 (sb g2 w' q)
  have HW0 := Lib.hid hW0; have HB0 := Lib.hid hB0; have Hs0 := Lib.hid hs0; have G0 := Lib.hid g0; have G1 := Lib.hid g1; have G2 := Lib.hid g2
  clear hW0 g0 g1 g2 hB0 hs0
  go_enter Try.func47, Try.ntmps47
  have q0 := br W0
  go_wp2_with fail
  rw [HW0.out]
  refine (segO_any st bk lo hi W c x ph r W0 h1 h2 hx hp hr).mono ?_
  rintro e w1 ⟨rfl, k1⟩
  have q1 := bt q0 k1
  go_wp2_with fail
  refine (segI_any st bk lo hi W c x ph r w1 h1 h2 hx hp hr).mono ?_
  rintro e w2 ⟨rfl, k2⟩
  have q2 := bt q1 k2
  go_wp2_with fail
  refine (segs_any lo hi W w2 h1 h2 h3 h4).mono ?_
  rintro e w3 ⟨v3, rfl, o3, k3⟩
  have q3 := bt q2 k3
  have hso : segOut W x ph r < W := Nat.mod_lt _ h1
  have hsi : segIn W x ph r < W := Nat.mod_lt _ h1
  obtain ⟨so, hso0⟩ : ∃ so, segOut W x ph r = so := ⟨_, rfl⟩
  obtain ⟨si, hsi0⟩ : ∃ si, segIn W x ph r = si := ⟨_, rfl⟩
  rw [hso0] at hso ⊢
  rw [hsi0] at hsi ⊢
  obtain ⟨g, c3, hv3, hg3, hg4⟩ := o3.form (by omega)
  subst hv3
  have hin := segR_in (b := (lo, hi)) h1 h3 h4
  obtain ⟨bo, hbo⟩ : ∃ bo, rgAt (segR (lo, hi) W) so = bo := ⟨_, rfl⟩
  obtain ⟨bi, hbi⟩ : ∃ bi, rgAt (segR (lo, hi) W) si = bi := ⟨_, rfl⟩
  have ho1 := hin bo (by rw [← hbo, rgAt_eq _ _ (by rw [segR_len]; exact hso)]; exact List.getElem_mem _)
  have hi1 := hin bi (by rw [← hbi, rgAt_eq _ _ (by rw [segR_len]; exact hsi)]; exact List.getElem_mem _)
  have po := rg_cell o3 hso
  have pi := rg_cell o3 hsi
  rw [hbo] at po
  rw [hbi] at pi
  have q33 := br w3
  have to1 := fun w' (q : Below w3.heap.size w3 w') => cell_below q po.1
  have to2 := fun w' (q : Below w3.heap.size w3 w') => cell_below q po.2
  have ti1 := fun w' (q : Below w3.heap.size w3 w') => cell_below q pi.1
  have ti2 := fun w' (q : Below w3.heap.size w3 w') => cell_below q pi.2
  have u0 := fun w' (q : Below w3.heap.size w3 w') => t0 w' (bt q3 q)
  have hsoI : (so : Int) < W := by omega
  have hsiI : (si : Int) < W := by omega
  have HR : Hid (roundL st bk (lo, hi) W c x ph r = pairUp (chR bo c) (chR bi c) (fun i s => ⟨true, false, st, bk, ph, r, i, s⟩) (fun i s => ⟨false, ph == 0, st, bk, ph, r, i, s⟩)) := Lib.hid (by unfold roundL; rw [hso0, hsi0, hbo, hbi])
  have Hq3 := Lib.hid q3
  clear t0 hg3 hg4 hin hbo hbi hso0 hsi0 po pi q0 q1 q2 q3 k1 k2 k3 o3
  go_wp2_with fail
  refine HA.g (fun w' : World => Below w3.heap.size w3 w') ?_
  refine HA.t ?_ [0, 1, 2, 3, 4, 5, 7, 8, 9, 10, 11, 12] q33.drew ?_
  refine HA.c 6 (chks_any bo.1 bo.2 c _ h5 h6 ho1.1 ho1.2) ?_
  rintro e w4 ⟨v4, rfl, o4, k4⟩
  have q4 := bt q33.drew k4
  refine ⟨_, rfl, q4, fun _ => ?_⟩
  refine HA.c 13 (chks_any bi.1 bi.2 c _ h5 h6 hi1.1 hi1.2) ?_
  rintro e w5 ⟨v5, rfl, o5, k5⟩
  have q5 := bt q4 k5
  refine ⟨_, rfl, q5, fun _ => ?_⟩
  refine HA.t ?_ [14, 15] q5 ?_
  refine HA.d ?_
  obtain ⟨A4, c4, rfl, _⟩ := own_form o4
  obtain ⟨A5, c5, rfl, _⟩ := own_form o5
  obtain ⟨X, hX⟩ : ∃ X, chR bo c = X := ⟨_, rfl⟩
  obtain ⟨Y, hY⟩ : ∃ Y, chR bi c = Y := ⟨_, rfl⟩
  have hXl : X.length ≤ 1048576 := by rw [← hX, chR_len]; have := cntQ_le (bo.2 - bo.1) c; omega
  have hYl : Y.length ≤ 1048576 := by rw [← hY, chR_len]; have := cntQ_le (bi.2 - bi.1) c; omega
  rw [hX] at o4 HR ⊢
  rw [hY] at o5 HR ⊢
  simp only [Exit.then]
  have Q5 := Lib.hid ((Hq3.out).trans (q5.mono Hq3.out.size))
  have O4 := Lib.hid (own_below o4 k5); have O5 := Lib.hid o5
  have B4 := Lib.hid (own_at (own_below o4 k5)); have B5 := Lib.hid (own_at o5)
  clear o4 o5 k4 k5 q4 q5 q33 to1 to2 ti1 ti2 u0 t1 t2 Hq3 hX hY ho1 hi1
  obtain ⟨M, hM⟩ : ∃ M : Nat, max X.length Y.length = M := ⟨_, rfl⟩
  have hmx : (if X.length < Y.length then (Y.length : Int) else (X.length : Int)) = (M : Int) := by rw [← hM]; split <;> omega
  have HMx := Lib.hid hM
  clear hM
  go_wp2_with fail
  go_loopw [62] (fun x wr => ∃ m : Nat, m ≤ M ∧ x = .int .i64 m ∧ ∃ v, wr.heap[w5.heap.size]? = some (.cells #[v] 98 (0, 0)) ∧ wr.ownsRow w5.heap.size 78 9 v (pairK X Y (fun i s => (⟨true, false, st, bk, ph, r, i, s⟩ : Acn)) (fun i s => (⟨false, ph == 0, st, bk, ph, r, i, s⟩ : Acn)) m).length (acnVals (pairK X Y (fun i s => (⟨true, false, st, bk, ph, r, i, s⟩ : Acn)) (fun i s => (⟨false, ph == 0, st, bk, ph, r, i, s⟩ : Acn)) m)) ∧ Below w5.heap.size w5 wr) (fun x _ => M - (intOf x).toNat)
  case atStart => exact ⟨0, Nat.zero_le _, rfl, _, heap_alloc_new _ _, World.ownsRow_nil _ _ _ _, (br w5).alloc (Nat.le_refl _) _⟩
  case round =>
    obtain ⟨m, hm, rfl, v, n0, o0, q⟩ := hrel
    by_cases hlt : m < M
    · have hmi : (m : Int) < M := by omega
      have hw1 : IntKind.i64.wrap ((m : Int) + 1) = ((m + 1 : Nat) : Int) := by rw [IntWalk.i64_in _ (by omega)]; push_cast; rfl
      have hl0 := pairK_le X Y (fun i s => (⟨true, false, st, bk, ph, r, i, s⟩ : Acn)) (fun i s => (⟨false, ph == 0, st, bk, ph, r, i, s⟩ : Acn)) m
      have hR4 := (Rd.own O4.out).below q
      have hb4 := fun y e => (B4.out y e).2
      have c1 := add_any true m A4 X c4 w.heap.size (w.heap.size + 1) (w.heap.size + 1 + 1) w5.heap.size w5.heap.size st bk lo hi W c ph r v _ wr (sb G0.out wr (bt Q5.out q)) (sb G1.out wr (bt Q5.out q)) (sb G2.out wr (bt Q5.out q)) n0 o0 q.size (Nat.le_refl _) hR4 (by omega) (by omega) hb4
      have C1 := Lib.hid c1; have HQ := Lib.hid q; have Hl0 := Lib.hid hl0
      clear c1 hR4 hb4 n0 o0 q hl0
      go_wp2_with fail
      refine C1.out.mono ?_
      rintro e w6 ⟨rfl, v6, n6, o6, k6⟩
      have q6 := HQ.out.trans k6
      have hl1 : (actAdd true m X st bk ph r (pairK X Y (fun i s => (⟨true, false, st, bk, ph, r, i, s⟩ : Acn)) (fun i s => (⟨false, ph == 0, st, bk, ph, r, i, s⟩ : Acn)) m)).length ≤ 2 * m + 1 := by have := Hl0.out; unfold actAdd; split <;> simp <;> omega
      have hR5 := (Rd.own O5.out).below q6
      have hb5 := fun y e => (B5.out y e).2
      have c2 := add_any false m A5 Y c5 w.heap.size (w.heap.size + 1) (w.heap.size + 1 + 1) w5.heap.size w5.heap.size st bk lo hi W c ph r v6 _ w6 (sb G0.out w6 (bt Q5.out q6)) (sb G1.out w6 (bt Q5.out q6)) (sb G2.out w6 (bt Q5.out q6)) n6 o6 q6.size (Nat.le_refl _) hR5 (by omega) (by omega) hb5
      have C2 := Lib.hid c2; have HQ6 := Lib.hid q6
      clear c2 hR5 hb5 n6 o6 q6 k6 hl1
      go_wp2_with fail
      refine C2.out.mono ?_
      rintro e w7 ⟨rfl, v7, n7, o7, k7⟩
      have q7 := HQ6.out.trans k7
      rw [pairK_add] at o7
      have N7 := Lib.hid n7; have O7 := Lib.hid o7; have Q7 := Lib.hid q7
      clear n7 o7 q7 k7
      go_wp2_with fail
      go_roundw
      case rel => exact ⟨m + 1, by omega, by go_num, v7, N7.out, O7.out, Q7.out⟩
      case measure => simp [intOf]; omega
    · obtain rfl : M = m := by omega
      have hmi : ¬ ((M : Int) < M) := by omega
      have tn := fun w' q => bx1 (sb n0 w' q)
      have O0 := Lib.hid o0; have HQ := Lib.hid q; have HN := Lib.hid n0
      have q0 := br wr
      clear o0 q n0
      go_wp2_with fail
      go_ret
      refine ⟨_, rfl, ?_, ?_⟩
      · rw [HR.out]
        have := O0.out
        rw [← HMx.out] at this
        exact own_base this (Nat.le_trans HB0.out.size Q5.out.size)
      · exact HB0.out.trans ((bt Q5.out HQ.out).mono HB0.out.size)
end Go.Proofs.Ytaccfnffmbndhaa
