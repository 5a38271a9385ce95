/- The walks of sakiaref08. -/
import Derived.Test.YtaccfnffmbndhaaRgn
import Derived.Test.YtaccfnffmbndhaaProg
import Derived.Test.YtaccfnffmbndhaaShapePlain
import Derived.Test.YtaccfnffmbndhaaBlk
import Derived.BigQuiet
import Derived.Deep.QuietTactic
import Derived.Deep.RegionHeld3
import Derived.IntWalk
set_option linter.unusedSimpArgs false
set_option linter.unusedVariables false
namespace Go.Proofs.Ytaccfnffmbndhaa
open Go.RowKit

theorem rrng_hi (a b : Int) (w : World) : Sem.run Try.prog (Instr.field 60 (.agg #[.int .i64 a, .int .i64 b]) 1) w = .ok (.int .i64 b) w := by kernel_rfl
theorem rrng_lo (a b : Int) (w : World) : Sem.run Try.prog (Instr.field 60 (.agg #[.int .i64 a, .int .i64 b]) 0) w = .ok (.int .i64 a) w := by kernel_rfl

theorem rcount_any (A : Option Addr) (sz : List Int) (m c : Nat) (w : World) (hA : Rd w A (nums .i64 sz)) (hR : RightSz sz) (h1 : 1 ≤ m) (hm : m ≤ sz.length) :
    Calls Try.prog 38 #[.slice A m c] w fun e w' => e = .returned (.int .i64 (cntN sz (m - 1) : Int)) ∧ ∃ n, w' = w.drewN n := by
  have hmb : m ≤ 16 := by have := hR.1.2; omega
  have HAz := Lib.hid hA; have HR := Lib.hid hR; have Hm := Lib.hid hm; clear hA hR hm
  go_enter Try.func38, Try.ntmps38
  go_wp2_with fail
  go_loopw [3, 4] (fun v i wr => ∃ k : Nat, k + 1 ≤ m ∧ i = .int .i64 k ∧ v = .int .i64 (cntN sz k : Int) ∧ ∃ n, wr = w.drewN n) (fun _ i _ => m - (intOf i).toNat)
  case atStart => exact ⟨0, h1, rfl, rfl, 0, rfl⟩
  case round =>
    obtain ⟨k, hk, rfl, rfl, n, rfl⟩ := hrel
    by_cases hlt : k + 1 < m
    · have hm := Hm.out
      have z0 := HR.out.at (k := k) (by omega)
      have z1 := HR.out.at (k := k + 1) (by omega)
      obtain ⟨b, o, rfl, p0⟩ := HAz.out.num (show k < sz.length by omega)
      obtain ⟨_, _, e', p1⟩ := HAz.out.num (show k + 1 < sz.length by omega)
      injection e' with e'; injection e' with e1 e2 _; subst e1; subst e2
      have hb := HR.out.bound (k := k + 1) (by omega)
      rw [z0.2.2] at p0
      rw [z1.2.2] at p1
      have hc : cntN sz (k + 1) = cntN sz k + (szN sz k + 1) * szN sz (k + 1) := rfl
      obtain ⟨a, ha⟩ : ∃ a, szN sz k = a := ⟨_, rfl⟩
      obtain ⟨d, hd⟩ : ∃ d, szN sz (k + 1) = d := ⟨_, rfl⟩
      obtain ⟨N, hN⟩ : ∃ N, cntN sz k = N := ⟨_, rfl⟩
      obtain ⟨M, hM⟩ : ∃ M, cntN sz (k + 1) = M := ⟨_, rfl⟩
      obtain ⟨p, hp⟩ : ∃ p, (a + 1) * d = p := ⟨_, rfl⟩
      rw [ha] at p0 z0 hc
      rw [hd] at p1 z1 hc
      rw [hN, hM, hp] at hc
      rw [hM] at hb
      rw [hN]
      have HM := Lib.hid hM
      clear hM hN ha hd
      have hi1 : (k : Int) + 1 < m := by omega
      have hi0 : (k : Int) < m := by omega
      have hi2 : (0 : Int) ≤ (k : Int) + 1 := by omega
      have hi3 : ((k : Int) + 1).toNat = k + 1 := by omega
      have hw0 : IntKind.i64.wrap ((k : Int) + 1) = (k : Int) + 1 := IntWalk.i64_in _ (by omega)
      have hw1 : IntKind.i64.wrap ((a : Int) + 1) = (a : Int) + 1 := IntWalk.i64_in _ (by omega)
      have hpp : ((a : Int) + 1) * (d : Int) = (p : Int) := by rw [← hp]; push_cast; rfl
      have hw2 : IntKind.i64.wrap (((a : Int) + 1) * (d : Int)) = (p : Int) := by rw [hpp]; exact IntWalk.i64_in _ (by omega)
      have hw3 : IntKind.i64.wrap ((N : Int) + (p : Int)) = (M : Int) := by rw [IntWalk.i64_in _ (by omega)]; omega
      clear hpp hp hc hb z0 z1
      go_wp2_with fail
      go_quiet (fail)
      clear hw0 hw1 hw2 hw3 hi0 hi1 hi2 hi3
      go_wp2_with fail
      go_roundw
      case rel => exact ⟨k + 1, by omega, by go_num, by rw [HM.out], _, by first | rfl | exact World.drewN_drewN _ _ _⟩
      case measure => simp [intOf]; omega
    · obtain rfl : k = m - 1 := by omega
      have hwk : IntKind.i64.wrap (((m - 1 : Nat) : Int) + 1) = (m : Int) := by rw [IntWalk.i64_in _ (by omega)]; omega
      go_wp2_with fail
      go_ret
      exact ⟨rfl, n, rfl⟩

theorem rcheck_short (A : Option Addr) (sz : List Int) (c : Nat) (w : World) (hl : sz.length ≤ 17592186043904) (h : ¬ (2 ≤ sz.length ∧ sz.length ≤ 16)) :
    Calls Try.prog 24 #[.slice A sz.length c] w fun e w' => e = .returned (.int .i64 5) ∧ w = w' := by
  by_cases h1 : sz.length < 2
  · go_enter Try.func24, Try.ntmps24
    go_wp2
    go_ret
    exact ⟨rfl, rfl⟩
  · have h2 : 16 < sz.length := by omega
    go_enter Try.func24, Try.ntmps24
    go_wp2
    go_ret
    exact ⟨rfl, rfl⟩

/-- The code of right sizes. -/
def codeN (sz : List Int) : Int := if 1048576 < cntN sz (sz.length - 1) then 4 else 0
theorem rcheck_long (A : Option Addr) (sz : List Int) (c : Nat) (w : World) (hA : Rd w A (nums .i64 sz)) (h : 2 ≤ sz.length ∧ sz.length ≤ 16) :
    Calls Try.prog 24 #[.slice A sz.length c] w fun e w' => ((RightSz sz ∧ e = .returned (.int .i64 (codeN sz))) ∨ (¬ RightSz sz ∧ e = .returned (.int .i64 5))) ∧ ∃ n, w' = w.drewN n := by
  obtain ⟨h1, h2⟩ := h
  obtain ⟨n, hn⟩ : ∃ n, sz.length = n := ⟨_, rfl⟩
  have hct := fun (hR : RightSz sz) => rcount_any A sz n c w hA hR (by omega) (by omega)
  have hR : (∀ k, k < n → 1 ≤ nth sz k ∧ nth sz k ≤ 1048576) → RightSz sz := fun h => ⟨by omega, by rw [hn]; exact h⟩
  have hRn : RightSz sz → ∀ k, k < n → 1 ≤ nth sz k ∧ nth sz k ≤ 1048576 := fun h => by rw [← hn]; exact h.2
  have hcd : codeN sz = if 1048576 < cntN sz (n - 1) then 4 else 0 := by unfold codeN; rw [hn]
  rw [hn] at h1 h2 ⊢
  have HAz := Lib.hid hA; have Hct := Lib.hid hct; have HR := Lib.hid hR; have HRn := Lib.hid hRn; have Hn := Lib.hid hn; have Hcd := Lib.hid hcd; clear hA hct hR hRn hn hcd
  go_enter Try.func24, Try.ntmps24
  go_wp2_with fail
  go_loop [3] (fun i => ∃ k : Nat, k ≤ n ∧ i = .int .i64 k ∧ Hid (∀ j, j < k → 1 ≤ nth sz j ∧ nth sz j ≤ 1048576)) (fun i => n - (intOf i).toNat)
  case atStart => exact ⟨0, Nat.zero_le _, rfl, Lib.hid fun j hj => by omega⟩
  case round =>
    obtain ⟨k, hk, rfl, Hall⟩ := hrel
    by_cases hlt : k < n
    · obtain ⟨b, o, rfl, p⟩ := HAz.out.num (show k < sz.length by rw [Hn.out]; exact hlt)
      by_cases hz1 : nth sz k < 1
      · have hno : ¬ RightSz sz := fun h => by have := HRn.out h k hlt; omega
        have Hno := Lib.hid hno; clear hno
        go_wp2_with fail
        go_ret
        exact ⟨.inr ⟨Hno.out, rfl⟩, 0, rfl⟩
      · by_cases hz2 : 1048576 < nth sz k
        · have hno : ¬ RightSz sz := fun h => by have := HRn.out h k hlt; omega
          have Hno := Lib.hid hno; clear hno
          go_wp2_with fail
          go_ret
          exact ⟨.inr ⟨Hno.out, rfl⟩, 0, rfl⟩
        · have Hz := Lib.hid (show 1 ≤ nth sz k ∧ nth sz k ≤ 1048576 by omega)
          go_wp2_with fail
          go_round
          case rel => exact ⟨k + 1, by omega, by go_num, Lib.hid (p := ∀ j, j < k + 1 → 1 ≤ nth sz j ∧ nth sz j ≤ 1048576) fun j hj => by
            rcases Nat.lt_or_ge j k with h | h
            · exact Hall.out j h
            · obtain rfl : j = k := by omega
              exact Hz.out⟩
          case measure => simp [intOf]; omega
    · obtain rfl : k = n := by omega
      have hR := HR.out Hall.out
      have hb := hR.bound (k := k - 1) (by rw [Hn.out]; omega)
      have HRR := Lib.hid hR; clear hR
      by_cases hbig : 1048576 < cntN sz (k - 1)
      · have hbi : (1048576 : Int) < cntN sz (k - 1) := by omega
        have hcv : codeN sz = 4 := by rw [Hcd.out, if_pos hbig]
        have Hcv := Lib.hid hcv; clear hcv
        go_wp2_with fail
        refine (Hct.out HRR.out).mono ?_
        rintro e w' ⟨rfl, m, rfl⟩
        go_wp2_with fail
        go_ret
        exact ⟨.inl ⟨HRR.out, by rw [Hcv.out]; rfl⟩, m, rfl⟩
      · have hbi : ¬ (1048576 : Int) < cntN sz (k - 1) := by omega
        have hcv : codeN sz = 0 := by rw [Hcd.out, if_neg hbig]
        have Hcv := Lib.hid hcv; clear hcv
        go_wp2_with fail
        refine (Hct.out HRR.out).mono ?_
        rintro e w' ⟨rfl, m, rfl⟩
        go_wp2_with fail
        go_ret
        exact ⟨.inl ⟨HRR.out, by rw [Hcv.out]; rfl⟩, m, rfl⟩

/-- The code, whatever the sizes are. -/
theorem rcheck_any (A : Option Addr) (sz : List Int) (c : Nat) (w : World) (hA : Rd w A (nums .i64 sz)) (hl : sz.length ≤ 17592186043904) :
    Calls Try.prog 24 #[.slice A sz.length c] w fun e w' => (∃ v : Int, e = .returned (.int .i64 v) ∧ (v = 0 ↔ GoodSz sz) ∧ (v = 0 ∨ v = 4 ∨ v = 5)) ∧ ∃ n, w' = w.drewN n := by
  by_cases h : 2 ≤ sz.length ∧ sz.length ≤ 16
  · refine (rcheck_long A sz c w hA h).mono fun e w' ⟨h1, h2⟩ => ⟨?_, h2⟩
    rcases h1 with ⟨hR, rfl⟩ | ⟨hR, rfl⟩
    · refine ⟨_, rfl, ?_⟩
      unfold codeN GoodSz
      split
      · exact ⟨⟨fun h => by omega, fun h => by omega⟩, by omega⟩
      · exact ⟨⟨fun _ => ⟨hR, by omega⟩, fun _ => rfl⟩, by omega⟩
    · exact ⟨_, rfl, ⟨fun h => by omega, fun h => absurd h.1 hR⟩, by omega⟩
  · refine (rcheck_short A sz c w hl h).mono fun e w' ⟨h1, h2⟩ => ⟨⟨5, h1, ⟨fun h => by omega, fun hg => absurd hg.1.1 h⟩, by omega⟩, 0, h2.symm⟩

end Go.Proofs.Ytaccfnffmbndhaa
