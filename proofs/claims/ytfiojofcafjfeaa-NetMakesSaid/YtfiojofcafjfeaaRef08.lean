/- The walks of sakiaref08. -/
import Derived.Test.YtfiojofcafjfeaaProg
import Derived.Test.YtfiojofcafjfeaaShapePlain
import Derived.Test.YtfiojofcafjfeaaBlk
import Derived.BigQuiet
import Derived.Deep.QuietTactic
import Derived.Deep.RegionHeld3
import Derived.IntWalk
set_option linter.unusedSimpArgs false
set_option linter.unusedVariables false
namespace Go.Proofs.Ytfiojofcafjfeaa
open Go.RowKit

theorem rrng_hi (a b : Int) (w : World) : Sem.run Try.prog (Instr.field 110 (.agg #[.int .i64 a, .int .i64 b]) 1) w = .ok (.int .i64 b) w := by kernel_rfl
theorem rrng_lo (a b : Int) (w : World) : Sem.run Try.prog (Instr.field 110 (.agg #[.int .i64 a, .int .i64 b]) 0) w = .ok (.int .i64 a) w := by kernel_rfl

theorem rcount_any (A : Option Addr) (sz : List Int) (m c : Nat) (w : World) (hA : Rd w A (nums .i64 sz)) (hR : RightSz sz) (h1 : 1 ≤ m) (hm : m ≤ sz.length) :
    Calls Try.prog 25 #[.slice A m c] w fun e w' => e = .returned (.int .i64 (cntN sz (m - 1) : Int)) ∧ ∃ n, w' = w.drewN n := by
  have hmb : m ≤ 16 := by have := hR.1.2; omega
  have HA := Lib.hid hA; have HR := Lib.hid hR; have Hm := Lib.hid hm; clear hA hR hm
  go_enter Try.func25, Try.ntmps25
  go_wp2_with fail
  go_loopw [3, 4] (fun v i wr => ∃ k : Nat, k + 1 ≤ m ∧ i = .int .i64 k ∧ v = .int .i64 (cntN sz k : Int) ∧ ∃ n, wr = w.drewN n) (fun _ i _ => m - (intOf i).toNat)
  case atStart => exact ⟨0, h1, rfl, rfl, 0, rfl⟩
  case round =>
    obtain ⟨k, hk, rfl, rfl, n, rfl⟩ := hrel
    by_cases hlt : k + 1 < m
    · have hm := Hm.out
      have z0 := HR.out.at (k := k) (by omega)
      have z1 := HR.out.at (k := k + 1) (by omega)
      obtain ⟨b, o, rfl, p0⟩ := HA.out.num (show k < sz.length by omega)
      obtain ⟨_, _, e', p1⟩ := HA.out.num (show k + 1 < sz.length by omega)
      injection e' with e'; injection e' with e1 e2 _; subst e1; subst e2
      have hb := HR.out.bound (k := k + 1) (by omega)
      rw [z0.2.2] at p0
      rw [z1.2.2] at p1
      have hc : cntN sz (k + 1) = cntN sz k + (szN sz k + 1) * szN sz (k + 1) := rfl
      obtain ⟨a, ha⟩ : ∃ a, szN sz k = a := ⟨_, rfl⟩
      obtain ⟨d, hd⟩ : ∃ d, szN sz (k + 1) = d := ⟨_, rfl⟩
      obtain ⟨N, hN⟩ : ∃ N, cntN sz k = N := ⟨_, rfl⟩
      obtain ⟨M, hM⟩ : ∃ M, cntN sz (k + 1) = M := ⟨_, rfl⟩
      obtain ⟨p, hp⟩ : ∃ p, (a + 1) * d = p := ⟨_, rfl⟩
      rw [ha] at p0 z0 hc
      rw [hd] at p1 z1 hc
      rw [hN, hM, hp] at hc
      rw [hM] at hb
      rw [hN]
      have HM := Lib.hid hM
      clear hM hN ha hd
      have hi1 : (k : Int) + 1 < m := by omega
      have hi0 : (k : Int) < m := by omega
      have hi2 : (0 : Int) ≤ (k : Int) + 1 := by omega
      have hi3 : ((k : Int) + 1).toNat = k + 1 := by omega
      have hw0 : IntKind.i64.wrap ((k : Int) + 1) = (k : Int) + 1 := IntWalk.i64_in _ (by omega)
      have hw1 : IntKind.i64.wrap ((a : Int) + 1) = (a : Int) + 1 := IntWalk.i64_in _ (by omega)
      have hpp : ((a : Int) + 1) * (d : Int) = (p : Int) := by rw [← hp]; push_cast; rfl
      have hw2 : IntKind.i64.wrap (((a : Int) + 1) * (d : Int)) = (p : Int) := by rw [hpp]; exact IntWalk.i64_in _ (by omega)
      have hw3 : IntKind.i64.wrap ((N : Int) + (p : Int)) = (M : Int) := by rw [IntWalk.i64_in _ (by omega)]; omega
      clear hpp hp hc hb z0 z1
      go_wp2_with fail
      go_quiet (fail)
      clear hw0 hw1 hw2 hw3 hi0 hi1 hi2 hi3
      go_wp2_with fail
      go_roundw
      case rel => exact ⟨k + 1, by omega, by go_num, by rw [HM.out], _, by first | rfl | exact World.drewN_drewN _ _ _⟩
      case measure => simp [intOf]; omega
    · obtain rfl : k = m - 1 := by omega
      have hwk : IntKind.i64.wrap (((m - 1 : Nat) : Int) + 1) = (m : Int) := by rw [IntWalk.i64_in _ (by omega)]; omega
      go_wp2_with fail
      go_ret
      exact ⟨rfl, n, rfl⟩

theorem rcheck_short (A : Option Addr) (sz : List Int) (c : Nat) (w : World) (hl : sz.length ≤ 17592186043904) (h : ¬ (2 ≤ sz.length ∧ sz.length ≤ 16)) :
    Calls Try.prog 24 #[.slice A sz.length c] w fun e w' => e = .returned (.int .i64 5) ∧ w = w' := by
  by_cases h1 : sz.length < 2
  · go_enter Try.func24, Try.ntmps24
    go_wp2
    go_ret
    exact ⟨rfl, rfl⟩
  · have h2 : 16 < sz.length := by omega
    go_enter Try.func24, Try.ntmps24
    go_wp2
    go_ret
    exact ⟨rfl, rfl⟩

/-- The code of right sizes. -/
def codeN (sz : List Int) : Int := if 1048576 < cntN sz (sz.length - 1) then 4 else 0
theorem rcheck_long (A : Option Addr) (sz : List Int) (c : Nat) (w : World) (hA : Rd w A (nums .i64 sz)) (h : 2 ≤ sz.length ∧ sz.length ≤ 16) :
    Calls Try.prog 24 #[.slice A sz.length c] w fun e w' => ((RightSz sz ∧ e = .returned (.int .i64 (codeN sz))) ∨ (¬ RightSz sz ∧ e = .returned (.int .i64 5))) ∧ ∃ n, w' = w.drewN n := by
  obtain ⟨h1, h2⟩ := h
  obtain ⟨n, hn⟩ : ∃ n, sz.length = n := ⟨_, rfl⟩
  have hct := fun (hR : RightSz sz) => rcount_any A sz n c w hA hR (by omega) (by omega)
  have hR : (∀ k, k < n → 1 ≤ nth sz k ∧ nth sz k ≤ 1048576) → RightSz sz := fun h => ⟨by omega, by rw [hn]; exact h⟩
  have hRn : RightSz sz → ∀ k, k < n → 1 ≤ nth sz k ∧ nth sz k ≤ 1048576 := fun h => by rw [← hn]; exact h.2
  have hcd : codeN sz = if 1048576 < cntN sz (n - 1) then 4 else 0 := by unfold codeN; rw [hn]
  rw [hn] at h1 h2 ⊢
  have HA := Lib.hid hA; have Hct := Lib.hid hct; have HR := Lib.hid hR; have HRn := Lib.hid hRn; have Hn := Lib.hid hn; have Hcd := Lib.hid hcd; clear hA hct hR hRn hn hcd
  go_enter Try.func24, Try.ntmps24
  go_wp2_with fail
  go_loop [3] (fun i => ∃ k : Nat, k ≤ n ∧ i = .int .i64 k ∧ Hid (∀ j, j < k → 1 ≤ nth sz j ∧ nth sz j ≤ 1048576)) (fun i => n - (intOf i).toNat)
  case atStart => exact ⟨0, Nat.zero_le _, rfl, Lib.hid fun j hj => by omega⟩
  case round =>
    obtain ⟨k, hk, rfl, Hall⟩ := hrel
    by_cases hlt : k < n
    · obtain ⟨b, o, rfl, p⟩ := HA.out.num (show k < sz.length by rw [Hn.out]; exact hlt)
      by_cases hz1 : nth sz k < 1
      · have hno : ¬ RightSz sz := fun h => by have := HRn.out h k hlt; omega
        have Hno := Lib.hid hno; clear hno
        go_wp2_with fail
        go_ret
        exact ⟨.inr ⟨Hno.out, rfl⟩, 0, rfl⟩
      · by_cases hz2 : 1048576 < nth sz k
        · have hno : ¬ RightSz sz := fun h => by have := HRn.out h k hlt; omega
          have Hno := Lib.hid hno; clear hno
          go_wp2_with fail
          go_ret
          exact ⟨.inr ⟨Hno.out, rfl⟩, 0, rfl⟩
        · have Hz := Lib.hid (show 1 ≤ nth sz k ∧ nth sz k ≤ 1048576 by omega)
          go_wp2_with fail
          go_round
          case rel => exact ⟨k + 1, by omega, by go_num, Lib.hid (p := ∀ j, j < k + 1 → 1 ≤ nth sz j ∧ nth sz j ≤ 1048576) fun j hj => by
            rcases Nat.lt_or_ge j k with h | h
            · exact Hall.out j h
            · obtain rfl : j = k := by omega
              exact Hz.out⟩
          case measure => simp [intOf]; omega
    · obtain rfl : k = n := by omega
      have hR := HR.out Hall.out
      have hb := hR.bound (k := k - 1) (by rw [Hn.out]; omega)
      have HRR := Lib.hid hR; clear hR
      by_cases hbig : 1048576 < cntN sz (k - 1)
      · have hbi : (1048576 : Int) < cntN sz (k - 1) := by omega
        have hcv : codeN sz = 4 := by rw [Hcd.out, if_pos hbig]
        have Hcv := Lib.hid hcv; clear hcv
        go_wp2_with fail
        refine (Hct.out HRR.out).mono ?_
        rintro e w' ⟨rfl, m, rfl⟩
        go_wp2_with fail
        go_ret
        exact ⟨.inl ⟨HRR.out, by rw [Hcv.out]; rfl⟩, m, rfl⟩
      · have hbi : ¬ (1048576 : Int) < cntN sz (k - 1) := by omega
        have hcv : codeN sz = 0 := by rw [Hcd.out, if_neg hbig]
        have Hcv := Lib.hid hcv; clear hcv
        go_wp2_with fail
        refine (Hct.out HRR.out).mono ?_
        rintro e w' ⟨rfl, m, rfl⟩
        go_wp2_with fail
        go_ret
        exact ⟨.inl ⟨HRR.out, by rw [Hcv.out]; rfl⟩, m, rfl⟩

/-- The code, whatever the sizes are. -/
theorem rcheck_any (A : Option Addr) (sz : List Int) (c : Nat) (w : World) (hA : Rd w A (nums .i64 sz)) (hl : sz.length ≤ 17592186043904) :
    Calls Try.prog 24 #[.slice A sz.length c] w fun e w' => (∃ v : Int, e = .returned (.int .i64 v) ∧ (v = 0 ↔ GoodSz sz) ∧ (v = 0 ∨ v = 4 ∨ v = 5)) ∧ ∃ n, w' = w.drewN n := by
  by_cases h : 2 ≤ sz.length ∧ sz.length ≤ 16
  · refine (rcheck_long A sz c w hA h).mono fun e w' ⟨h1, h2⟩ => ⟨?_, h2⟩
    rcases h1 with ⟨hR, rfl⟩ | ⟨hR, rfl⟩
    · refine ⟨_, rfl, ?_⟩
      unfold codeN GoodSz
      split
      · exact ⟨⟨fun h => by omega, fun h => by omega⟩, by omega⟩
      · exact ⟨⟨fun _ => ⟨hR, by omega⟩, fun _ => rfl⟩, by omega⟩
    · exact ⟨_, rfl, ⟨fun h => by omega, fun h => absurd h.1 hR⟩, by omega⟩
  · refine (rcheck_short A sz c w hl h).mono fun e w' ⟨h1, h2⟩ => ⟨⟨5, h1, ⟨fun h => by omega, fun hg => absurd hg.1.1 h⟩, by omega⟩, 0, h2.symm⟩

theorem rfew_any (A : Option Addr) (sz : List Int) (c : Nat) (w : World) (hA : Rd w A (nums .i64 sz)) (hl : sz.length ≤ 17592186043904) :
    Calls Try.prog 23 #[.slice A sz.length c] w fun e w' => (∃ v, e = .returned (.bool v)) ∧ ∃ n, w' = w.drewN n := by
  have hc := rcheck_any A sz c w hA hl
  have Hc := Lib.hid hc; clear hc
  by_cases h : sz.length ≤ 40
  · have hd : decide ((sz.length : Int) ≤ 40) = true := decide_eq_true (by omega)
    go_enter Try.func23, Try.ntmps23
    go_wp2_with fail
    refine Hc.out.mono ?_
    rintro e w1 ⟨⟨v, rfl, hv, hv3⟩, n, rfl⟩
    by_cases hg : GoodSz sz
    · have hv0 := hv.2 hg
      subst hv0
      have hct := rcount_any A sz sz.length c (w.drewN n) (hA.drewN n) hg.1 (by have := hg.1.1; omega) (Nat.le_refl _)
      have Hct := Lib.hid hct; clear hct hv hv3 hA hg
      go_wp2_with fail
      refine Hct.out.mono ?_
      rintro e w1 ⟨rfl, m, rfl⟩
      go_wp2_with fail
      go_ret
      exact ⟨⟨_, rfl⟩, _, by first | rfl | exact World.drewN_drewN _ _ _⟩
    · have hv0 : (v != 0) = true := by
        simp; intro h0; exact hg (hv.1 h0)
      have Hv3 := Lib.hid hv3
      clear hv hg hA hv3
      go_wp2_with fail
      go_ret
      exact ⟨⟨_, rfl⟩, n, rfl⟩
  · have hd : decide ((sz.length : Int) ≤ 40) = false := decide_eq_false (by omega)
    go_enter Try.func23, Try.ntmps23
    go_wp2_with fail
    go_ret
    exact ⟨⟨_, rfl⟩, 0, rfl⟩

set_option maxHeartbeats 400000 in
theorem rweights_any (A : Option Addr) (sz : List Int) (k c : Nat) (w : World) (hA : Rd w A (nums .i64 sz)) (hR : RightSz sz) (hk : k + 1 < sz.length) (hc : sz.length ≤ c) :
    Calls Try.prog 72 #[.slice A sz.length c, .int .i64 k] w fun e w' => e = .returned (.agg #[.int .i64 (cntN sz k : Int), .int .i64 (midN sz k : Int)]) ∧ Below w.heap.size w w' := by
  have hl16 := hR.1.2
  have z0 := hR.at (k := k) (by omega)
  have z1 := hR.at hk
  obtain ⟨b, o, rfl, p0⟩ := hA.num (show k < sz.length by omega)
  obtain ⟨_, _, e', p1⟩ := hA.num hk
  injection e' with e'; injection e' with e1 e2 _; subst e1; subst e2
  have hct := fun w' (h : Below w.heap.size w w') => rcount_any (some ⟨b, o, none⟩) sz (k + 1) c w' (hA.below h) hR (by omega) (by omega)
  have hb := hR.bound (k := k + 1) hk
  have hm : midN sz k = cntN sz k + szN sz (k + 1) * szN sz k := rfl
  have hm2 := midN_eq sz k
  simp only [Nat.add_sub_cancel] at hct
  rw [z0.2.2] at p0
  rw [z1.2.2] at p1
  obtain ⟨a, ha⟩ : ∃ a, szN sz k = a := ⟨_, rfl⟩
  obtain ⟨d, hd⟩ : ∃ d, szN sz (k + 1) = d := ⟨_, rfl⟩
  obtain ⟨N, hN⟩ : ∃ N, cntN sz k = N := ⟨_, rfl⟩
  obtain ⟨M, hM⟩ : ∃ M, midN sz k = M := ⟨_, rfl⟩
  obtain ⟨p, hp⟩ : ∃ p, d * a = p := ⟨_, rfl⟩
  obtain ⟨n, hn⟩ : ∃ n, sz.length = n := ⟨_, rfl⟩
  rw [ha] at p0 z0 hm
  rw [hd] at p1 z1 hm hm2
  rw [hN, hM, hp] at hm
  rw [hM] at hm2
  rw [hN] at hct ⊢
  rw [hM]
  rw [hn] at hk hc hl16 ⊢
  have hbl : b < w.heap.size := lt_of_cell p0
  have Hct := Lib.hid hct
  clear hct hA hR
  have hi1 : (k : Int) + 1 < n := by omega
  have hi0 : (k : Int) < n := by omega
  have hi2 : (0 : Int) ≤ (k : Int) + 1 := by omega
  have hi3 : ((k : Int) + 1).toNat = k + 1 := by omega
  have hi4 : ((n - 1 : Nat) : Int) = (n : Int) - 1 := by omega
  have hi5 : ¬ ((n : Int) - 1 ≤ k) := by omega
  have hi6 : k + 1 ≤ c := by omega
  have hpp : (a : Int) * (d : Int) = (p : Int) := by rw [← hp, Nat.mul_comm]; push_cast; rfl
  have hw2 : IntKind.i64.wrap ((a : Int) * (d : Int)) = (p : Int) := by rw [hpp]; exact IntWalk.i64_in _ (by omega)
  have hw3 : IntKind.i64.wrap ((N : Int) + (p : Int)) = (M : Int) := by rw [IntWalk.i64_in _ (by omega)]; omega
  have Hw2 := Lib.hid hw2; have Hw3 := Lib.hid hw3
  clear hpp hp hb z0 z1 hm hm2 hM hN ha hd hn hw2 hw3
  go_enter Try.func72, Try.ntmps72
  go_wp2_with fail
  refine (Hct.out _ ?_).mono ?_
  · (focus (repeat' (first | (with_reducible exact Below.refl _ _) | (with_reducible assumption) | (with_reducible refine Below.setCell ?_ ?_ _) | (with_reducible refine Below.alloc ?_ ?_ _) | (with_reducible refine below_drewN ?_ _) | (with_reducible refine Below.drew ?_) | (with_reducible exact Nat.le_refl _) | omega | (simp; done) | (simp; omega))))
  rintro e w' ⟨rfl, m, rfl⟩
  have hw2 := Hw2.out
  have hw3 := Hw3.out
  go_wp2_with fail
  go_region
  all_goals clear hw2 hw3
  all_goals go_wp2_with fail
  all_goals
    refine bodyPost_ret (v := .agg #[.int .i64 N, .int .i64 M]) (by simp [results, Try.results72, go_sem]) rfl ⟨rfl, ?_⟩
    (focus (repeat' (first | (with_reducible exact Below.refl _ _) | (with_reducible assumption) | (with_reducible refine Below.setCell ?_ ?_ _) | (with_reducible refine Below.alloc ?_ ?_ _) | (with_reducible refine below_drewN ?_ _) | (with_reducible refine Below.drew ?_) | (with_reducible exact Nat.le_refl _) | omega | (simp; done) | (simp; omega))))

set_option maxHeartbeats 400000 in
theorem rbiases_any (A : Option Addr) (sz : List Int) (k c : Nat) (w : World) (hA : Rd w A (nums .i64 sz)) (hR : RightSz sz) (hk : k + 1 < sz.length) (hc : sz.length ≤ c) :
    Calls Try.prog 73 #[.slice A sz.length c, .int .i64 k] w fun e w' => e = .returned (.agg #[.int .i64 (midN sz k : Int), .int .i64 (cntN sz (k + 1) : Int)]) ∧ Below w.heap.size w w' := by
  have hl16 := hR.1.2
  have hwt := fun w' (h : Below w.heap.size w w') => rweights_any A sz k c w' (hA.below h) hR hk hc
  have hct := fun w' (h : Below w.heap.size w w') => rcount_any A sz (k + 2) c w' (hA.below h) hR (by omega) (by omega)
  simp only [show k + 2 - 1 = k + 1 by omega] at hct
  obtain ⟨b, o, rfl, p0⟩ := hA.num (show k < sz.length by omega)
  obtain ⟨n, hn⟩ : ∃ n, sz.length = n := ⟨_, rfl⟩
  obtain ⟨N, hN⟩ : ∃ N, cntN sz (k + 1) = N := ⟨_, rfl⟩
  obtain ⟨M, hM⟩ : ∃ M, midN sz k = M := ⟨_, rfl⟩
  rw [hN] at hct ⊢
  have hNN : cntN sz k = cntN sz k := rfl
  clear hNN
  rw [hM] at hwt ⊢
  rw [hn] at hwt hk hc hl16 ⊢
  have Hwt := Lib.hid hwt; have Hct := Lib.hid hct
  clear hwt hct hA hR p0 hn hN hM
  have hi5 : ¬ ((n : Int) - 1 ≤ k) := by omega
  have hi7 : (k : Int) + 2 ≤ c := by omega
  have hi2 : (0 : Int) ≤ (k : Int) + 2 := by omega
  have hi3 : ((k : Int) + 2).toNat = k + 2 := by omega
  have hw0 : IntKind.i64.wrap ((k : Int) + 2) = (k : Int) + 2 := IntWalk.i64_in _ (by omega)
  have hfd := rrng_hi
  go_enter Try.func73, Try.ntmps73
  go_wp2_with fail
  have hSw : (fun _ : World => True) (w.alloc (.cells #[.int .i64 0, .int .i64 0] 110)).drew := trivial
  refine wp_region_held (S := fun _ : World => True) (by kernel_rfl) ?_
  change wpAnyH _ _ _ _ _ _ _ _ (w.alloc (.cells #[.int .i64 0, .int .i64 0] 110)).drew
  refine wpAnyH_take (i := 0) (v := ?_) rfl (by kernel_rfl) (by kernel_rfl) (by kernel_rfl) (fun _ _ _ h => h) (Or.inl ⟨by rfl, ?_⟩) hSw ?_
  rotate_left
  · intro w9 hS9; (try dsimp only at hS9); have s1 := hS9; go_simp; (try with_reducible rfl)
  simp only [List.getElem_toArray, List.getElem_cons_succ, List.getElem_cons_zero, Act.put, List.setIfInBounds_toArray, List.set_cons_zero, List.set_cons_succ]
  refine wpAnyH_take (i := 1) (v := ?_) rfl (by kernel_rfl) (by kernel_rfl) (by kernel_rfl) (fun _ _ _ h => h) (Or.inl ⟨by rfl, ?_⟩) hSw ?_
  rotate_left
  · intro w9 hS9; (try dsimp only at hS9); have s1 := hS9; go_simp; (try with_reducible rfl)
  simp only [List.getElem_toArray, List.getElem_cons_succ, List.getElem_cons_zero, Act.put, List.setIfInBounds_toArray, List.set_cons_zero, List.set_cons_succ]
  refine wpAnyH_take (i := 4) (v := ?_) rfl (by kernel_rfl) (by kernel_rfl) (by kernel_rfl) (fun _ _ _ h => h) (Or.inl ⟨by rfl, ?_⟩) hSw ?_
  rotate_left
  · intro w9 hS9; (try dsimp only at hS9); have s1 := hS9; go_simp; (try with_reducible rfl)
  simp only [List.getElem_toArray, List.getElem_cons_succ, List.getElem_cons_zero, Act.put, List.setIfInBounds_toArray, List.set_cons_zero, List.set_cons_succ]
  refine wpAnyH_take (i := 5) (v := ?_) rfl (by kernel_rfl) (by kernel_rfl) (by kernel_rfl) (fun _ _ _ h => h) (Or.inl ⟨by rfl, ?_⟩) hSw ?_
  rotate_left
  · intro w9 hS9; (try dsimp only at hS9); have s1 := hS9; go_simp; (try with_reducible rfl)
  simp only [List.getElem_toArray, List.getElem_cons_succ, List.getElem_cons_zero, Act.put, List.setIfInBounds_toArray, List.set_cons_zero, List.set_cons_succ]
  refine wpAnyH_take (i := 6) (v := ?_) rfl (by kernel_rfl) (by kernel_rfl) (by kernel_rfl) (fun _ _ _ h => h) (Or.inl ⟨by rfl, ?_⟩) hSw ?_
  rotate_left
  · intro w9 hS9; (try dsimp only at hS9); have s1 := hS9; go_simp; (try with_reducible rfl)
  simp only [List.getElem_toArray, List.getElem_cons_succ, List.getElem_cons_zero, Act.put, List.setIfInBounds_toArray, List.set_cons_zero, List.set_cons_succ]
  refine wpAnyH_take (i := 7) (v := ?_) rfl (by kernel_rfl) (by kernel_rfl) (by kernel_rfl) (fun _ _ _ h => h) (Or.inl ⟨by rfl, ?_⟩) hSw ?_
  rotate_left
  · intro w9 hS9; (try dsimp only at hS9); have s1 := hS9; go_simp; (try with_reducible rfl)
  simp only [List.getElem_toArray, List.getElem_cons_succ, List.getElem_cons_zero, Act.put, List.setIfInBounds_toArray, List.set_cons_zero, List.set_cons_succ]
  refine wpAnyH_ready (rs := [2]) (by kernel_rfl) (by simp) ?_
  refine AllReadyH.cons rfl (fun K hK => ?_) AllReadyH.nil
  simp only [List.getElem_toArray, List.getElem_cons_succ, List.getElem_cons_zero]
  go_simp
  refine (Hwt.out _ ?_).mono ?_
  · (focus (repeat' (first | (with_reducible exact Below.refl _ _) | (with_reducible assumption) | (with_reducible refine Below.setCell ?_ ?_ _) | (with_reducible refine Below.alloc ?_ ?_ _) | (with_reducible refine below_drewN ?_ _) | (with_reducible refine Below.drew ?_) | (with_reducible exact Nat.le_refl _) | omega | (simp; done) | (simp; omega))))
  rintro e w1 ⟨rfl, hb1⟩
  have hB1 : Below w.heap.size w w1 := (((Below.refl _ w).alloc (Nat.le_refl _) _).drew).trans (hb1.mono (by simp))
  have hbx := (hb1.block w.heap.size (by simp)).trans (heap_alloc_new w (.cells #[.int .i64 0, .int .i64 0] 110))
  have k0 := cell_of_row w1 _ 0 _ _ _ hbx
  have k1 := cell_of_row w1 _ 1 _ _ _ hbx
  have kf := fun j => frozen_of_row w1 _ j _ _ hbx
  have l1 : w.heap.size < w1.heap.size := lt_of_block hbx
  have Hbx := Lib.hid hbx
  clear hb1 hbx
  dsimp only
  refine hK.out _ _ trivial (fun hSw => ?_)
  clear hK K
  refine wpAnyH_take (i := 3) (v := ?_) rfl (by kernel_rfl) (by kernel_rfl) (by kernel_rfl) (fun _ _ _ h => h) (Or.inl ⟨by rfl, ?_⟩) hSw ?_
  rotate_left
  · intro w9 hS9; (try dsimp only at hS9); have s1 := hS9; go_simp; (try with_reducible rfl)
  simp only [List.getElem_toArray, List.getElem_cons_succ, List.getElem_cons_zero, Act.put, List.setIfInBounds_toArray, List.set_cons_zero, List.set_cons_succ]
  refine wpAnyH_ready (rs := [8]) (by kernel_rfl) (by simp) ?_
  refine AllReadyH.cons rfl (fun K hK => ?_) AllReadyH.nil
  simp only [List.getElem_toArray, List.getElem_cons_succ, List.getElem_cons_zero]
  go_simp
  refine (Hct.out _ hB1).mono ?_
  rintro e w2 ⟨rfl, m, rfl⟩
  dsimp only
  refine hK.out _ _ trivial (fun hSw => ?_)
  clear hK K
  refine wpAnyH_take (i := 9) (v := ?_) rfl (by kernel_rfl) (by kernel_rfl) (by kernel_rfl) (fun _ _ _ h => h) (Or.inl ⟨by rfl, ?_⟩) hSw ?_
  rotate_left
  · intro w9 hS9; (try dsimp only at hS9); have s1 := hS9; go_simp; (try with_reducible rfl)
  simp only [List.getElem_toArray, List.getElem_cons_succ, List.getElem_cons_zero, Act.put, List.setIfInBounds_toArray, List.set_cons_zero, List.set_cons_succ]
  refine wpAnyH_ready (rs := [10]) (by kernel_rfl) (by simp) ?_
  refine AllReadyH.cons rfl (fun K hK => ?_) AllReadyH.nil
  simp only [List.getElem_toArray, List.getElem_cons_succ, List.getElem_cons_zero]
  go_simp
  refine hK.out _ _ trivial (fun hSw => ?_)
  clear hK K
  refine wpAnyH_done (by kernel_rfl) ?_ _
  go_wp2_with fail
  have e1 := heap_setCell_same (w1.drewN m) w.heap.size 0 _ _ (.int .i64 M) Hbx.out
  have e2 := heap_setCell_same _ w.heap.size 1 _ _ (.int .i64 N) e1
  have hb9 : Below w.heap.size w (((w1.drewN m).setCell ⟨w.heap.size, 0, none⟩ (.int .i64 M)).setCell ⟨w.heap.size, 1, none⟩ (.int .i64 N)) := by (focus (repeat' (first | (with_reducible exact Below.refl _ _) | (with_reducible assumption) | (with_reducible refine Below.setCell ?_ ?_ _) | (with_reducible refine Below.alloc ?_ ?_ _) | (with_reducible refine below_drewN ?_ _) | (with_reducible refine Below.drew ?_) | (with_reducible exact Nat.le_refl _) | omega | (simp; done) | (simp; omega))))
  obtain ⟨W9, hW9⟩ : ∃ W9, W9 = ((w1.drewN m).setCell ⟨w.heap.size, 0, none⟩ (.int .i64 M)).setCell ⟨w.heap.size, 1, none⟩ (.int .i64 N) := ⟨_, rfl⟩
  rw [← hW9] at e2 hb9 ⊢
  have e3 : W9.heap[w.heap.size]? = some (.cells #[.int .i64 M, .int .i64 N] 110 (0, 0)) := e2
  have x0 := cell_of_row W9 _ 0 _ _ _ e3
  have x1 := cell_of_row W9 _ 1 _ _ _ e3
  have xf := fun j => frozen_of_row W9 _ j _ _ e3
  exact bodyPost_ret (v := .agg #[.int .i64 M, .int .i64 N]) (by simp [results, Try.results73, go_sem, x0, x1]) rfl ⟨rfl, hb9⟩
end Go.Proofs.Ytfiojofcafjfeaa
