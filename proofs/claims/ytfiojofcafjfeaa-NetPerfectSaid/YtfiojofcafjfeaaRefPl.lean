/- The walk of sakiaref08.Places. -/
import Derived.Test.YtfiojofcafjfeaaPlacePlain
import Derived.Test.YtfiojofcafjfeaaProg
import Derived.IntWalk
set_option linter.unusedSimpArgs false
set_option linter.unusedVariables false
namespace Go.Proofs.Ytfiojofcafjfeaa
open Go.RowKit

theorem et_pls : ElemT Try.prog 73 78 (.agg #[.int .i64 0, .int .i64 0, .int .i64 0]) 3 24 := ⟨Try.underlying73, info_parts (by kernel_rfl), rfl, by decide⟩

set_option maxRecDepth 100000 in
set_option maxHeartbeats 1000000 in
theorem rplaces_any (A : Option Addr) (sz : List Int) (c : Nat) (w : World) (hA : Rd w A (nums .i64 sz)) (hg : GoodSz sz) :
    Calls Try.prog 37 #[.slice A sz.length c] w fun e w' => ∃ A' c', e = .returned (.slice A' (cntN sz (sz.length - 1)) c') ∧ w'.ownsRow w.heap.size 78 3 (.slice A' (cntN sz (sz.length - 1)) c') (cntN sz (sz.length - 1)) (plV (plL sz (sz.length - 1))) ∧ Below w.heap.size w w' := by
  have hl16 := hg.1.1
  obtain ⟨b, o, rfl, p00⟩ := hA.num (show 0 < sz.length by omega)
  have hbl : b < w.heap.size := lt_of_cell p00
  obtain ⟨L, hL⟩ : ∃ L, sz.length = L := ⟨_, rfl⟩
  rw [hL] at hl16 ⊢
  have HA := Lib.hid hA; have HG := Lib.hid hg; have HL := Lib.hid hL; clear hA hg hL p00
  go_enter Try.func37, Try.ntmps37
  go_wp2_with fail
  go_loopw [3, 4] (fun v i wr => ∃ k : Nat, k + 1 ≤ L ∧ i = .int .i64 k ∧ wr.ownsRow w.heap.size 78 3 v (cntN sz k) (plV (plL sz k)) ∧ Below w.heap.size w wr) (fun _ i _ => L - (intOf i).toNat)
  case atStart => exact ⟨0, by omega, rfl, World.ownsRow_nil _ _ _ _, Below.refl _ _⟩
  case round =>
    obtain ⟨wq, rfl⟩ : ∃ wq : World, wq = wr := ⟨_, rfl⟩
    obtain ⟨k, hk, rfl, ho0, hW0⟩ := hrel
    obtain ⟨A0, c9, rfl, _⟩ := own_form ho0
    have Ho0 := Lib.hid ho0; have HW0 := Lib.hid hW0; clear ho0 hW0
    have hwk : IntKind.i64.wrap ((k : Int) + 1) = (k : Int) + 1 := IntWalk.i64_in _ (by omega)
    by_cases hlt : k + 1 < L
    · have hR := HG.out.1
      have hL2 := HL.out
      have z0 := hR.at (k := k) (by omega)
      have z1 := hR.at (k := k + 1) (by omega)
      obtain ⟨_, _, e', p0⟩ := HA.out.num (show k < sz.length by omega)
      injection e' with e'; injection e' with e1 e2 _; subst e1; subst e2
      obtain ⟨_, _, e', p1⟩ := HA.out.num (show k + 1 < sz.length by omega)
      injection e' with e'; injection e' with e1 e2 _; subst e1; subst e2
      rw [z0.2.2] at p0
      rw [z1.2.2] at p1
      have hb1 := HG.out.bound (k := k + 1) (by omega)
      have hm := midN_eq sz k
      have hm2 : midN sz k = cntN sz k + szN sz (k + 1) * szN sz k := rfl
      have hpk : plK sz k = plW k (szN sz k) (szN sz (k + 1) * szN sz k) ++ plB k (szN sz (k + 1)) := rfl
      obtain ⟨c0, hc0⟩ : ∃ c0, szN sz k = c0 := ⟨_, rfl⟩
      obtain ⟨r1, hr1⟩ : ∃ r1, szN sz (k + 1) = r1 := ⟨_, rfl⟩
      obtain ⟨N, hN⟩ : ∃ N, cntN sz k = N := ⟨_, rfl⟩
      obtain ⟨M, hM⟩ : ∃ M, midN sz k = M := ⟨_, rfl⟩
      rw [hc0] at p0 hm2 hpk z0
      rw [hr1] at p1 hm2 hm hpk z1
      rw [hN, hM] at hm2
      rw [hM] at hm
      rw [← hm] at hb1
      have Hpk := Lib.hid hpk; have HN := Lib.hid hN; have Hm := Lib.hid hm
      have hki : (k : Int) + 1 < L := by omega
      have hki0 : (k : Int) < L := by omega
      clear hc0 hr1 hpk hm hN hM hL2 hR
      go_wp2_with fail
      go_loopw [3, 5] (fun v i wr => ∃ r : Nat, r ≤ r1 ∧ i = .int .i64 r ∧ wr.ownsRow w.heap.size 78 3 v (N + r * c0) (plV (plL sz k ++ plW k c0 (r * c0))) ∧ Below w.heap.size w wr) (fun _ i _ => r1 - (intOf i).toNat)
      case atStart =>
        refine ⟨0, Nat.zero_le _, rfl, ?_, HW0.out⟩
        rw [Nat.zero_mul, show plW k c0 0 = [] from rfl, List.append_nil, Nat.add_zero, ← HN.out]
        exact Ho0.out
      case round =>
        obtain ⟨w1, rfl⟩ : ∃ w1 : World, w1 = wr := ⟨_, rfl⟩
        obtain ⟨r, hr, rfl, ho1, hW1⟩ := hrel
        obtain ⟨A1, d1, rfl, _⟩ := own_form ho1
        have p0r := (hW1.cell (p := ⟨b, o + k, none⟩) hbl).trans p0
        have p1r := (hW1.cell (p := ⟨b, o + (k + 1), none⟩) hbl).trans p1
        have Ho1 := Lib.hid ho1; have HW1 := Lib.hid hW1; clear ho1 hW1
        by_cases hlr : r < r1
        · have hrc : r * c0 + c0 ≤ r1 * c0 := by
            have := Nat.mul_le_mul_right c0 (show r + 1 ≤ r1 by omega)
            rwa [Nat.succ_mul] at this
          have hrs : (r + 1) * c0 = r * c0 + c0 := Nat.succ_mul r c0
          obtain ⟨rc, hrce⟩ : ∃ rc, r * c0 = rc := ⟨_, rfl⟩
          obtain ⟨m1, hm1⟩ : ∃ m1, r1 * c0 = m1 := ⟨_, rfl⟩
          have hsu := fun j (hj : j < c0) => plW_succ k c0 r j hj
          rw [hrce] at hrc hrs hsu
          rw [hm1] at hrc hm2
          have Hsu := Lib.hid hsu; have Hrs := Lib.hid hrs; have Hrc := Lib.hid hrce
          clear hsu hrs hrce hm1
          go_wp2_with fail
          go_loopw [3, 6] (fun v i wr => ∃ j : Nat, j ≤ c0 ∧ i = .int .i64 j ∧ wr.ownsRow w.heap.size 78 3 v (N + (rc + j)) (plV (plL sz k ++ plW k c0 (rc + j))) ∧ Below w.heap.size w wr) (fun _ i _ => c0 - (intOf i).toNat)
          case atStart =>
            refine ⟨0, Nat.zero_le _, rfl, ?_, HW1.out⟩
            rw [Nat.add_zero, ← Hrc.out]
            exact Ho1.out
          case round =>
            obtain ⟨w2, rfl⟩ : ∃ w2 : World, w2 = wr := ⟨_, rfl⟩
            obtain ⟨j, hj, rfl, ho2, hW2⟩ := hrel
            obtain ⟨A2, d2, rfl, _⟩ := own_form ho2
            have p0s := (hW2.cell (p := ⟨b, o + k, none⟩) hbl).trans p0
            have hz := hW2.size
            have Ho2 := Lib.hid ho2; have HW2 := Lib.hid hW2; clear ho2 hW2 p0r p1r
            by_cases hlj : j < c0
            · have hsj := Hsu.out j hlj
              have Hsj := Lib.hid hsj; clear hsj
              go_wp2_with (at_builtin; refine wpList_push et_pls w2 rfl (.tmp 32) (.tmp 37) rfl w.heap.size (.slice A2 (N + (rc + j)) d2) (N + (rc + j)) _ rfl Ho2.out [.int .i64 k, .int .i64 r, .int .i64 j] rfl rfl (by simp [Value.oneCell']) (by omega) (by unfold maxLen; omega) (by omega) ?_)
              intro g7 c7 w7 ho7 hb7 hg7
              have hB7 := HW2.out.trans hb7
              have HO7 := Lib.hid ho7; have HB7 := Lib.hid hB7; clear ho7 hb7 hg7 hB7
              go_wp2_with fail
              go_roundw
              case rel =>
                refine ⟨j + 1, by omega, by go_num, ?_, HB7.out⟩
                have := HO7.out
                rw [← plV_one (k, r, (j : Int)), ← plV_append, List.append_assoc, ← Hsj.out, show N + (rc + j) + 1 = N + (rc + (j + 1)) by omega, show rc + j + 1 = rc + (j + 1) by omega] at this
                exact this
              case measure => simp [intOf]; omega
            · obtain rfl : j = c0 := by omega
              go_wp2_with fail
              go_roundw
              case rel =>
                refine ⟨r + 1, by omega, by go_num, ?_, HW2.out⟩
                rw [Hrs.out]
                exact Ho2.out
              case measure => simp [intOf]; omega
        · obtain rfl : r = r1 := by omega
          have Hm2 := Lib.hid hm2; clear hm2
          go_wp2_with fail
          go_loopw [3, 7] (fun v i wr => ∃ t : Nat, t ≤ r ∧ i = .int .i64 t ∧ wr.ownsRow w.heap.size 78 3 v (M + t) (plV (plL sz k ++ plW k c0 (r * c0) ++ plB k t)) ∧ Below w.heap.size w wr) (fun _ i _ => r - (intOf i).toNat)
          case atStart =>
            refine ⟨0, Nat.zero_le _, rfl, ?_, HW1.out⟩
            rw [show plB k 0 = [] from rfl, List.append_nil, Nat.add_zero, Hm2.out]
            exact Ho1.out
          case round =>
            obtain ⟨w2, rfl⟩ : ∃ w2 : World, w2 = wr := ⟨_, rfl⟩
            obtain ⟨t, ht, rfl, ho2, hW2⟩ := hrel
            obtain ⟨A2, d2, rfl, _⟩ := own_form ho2
            have p1s := (hW2.cell (p := ⟨b, o + (k + 1), none⟩) hbl).trans p1
            have hz := hW2.size
            have Ho2 := Lib.hid ho2; have HW2 := Lib.hid hW2; clear ho2 hW2 p0r p1r
            by_cases hlj : t < r
            · go_wp2_with (at_builtin; refine wpList_push et_pls w2 rfl (.tmp 48) (.tmp 52) rfl w.heap.size (.slice A2 (M + t) d2) (M + t) _ rfl Ho2.out [.int .i64 k, .int .i64 t, .int .i64 (-1)] rfl rfl (by simp [Value.oneCell']) (by omega) (by unfold maxLen; omega) (by omega) ?_)
              intro g7 c7 w7 ho7 hb7 hg7
              have hB7 := HW2.out.trans hb7
              have HO7 := Lib.hid ho7; have HB7 := Lib.hid hB7; clear ho7 hb7 hg7 hB7
              go_wp2_with fail
              go_roundw
              case rel =>
                refine ⟨t + 1, by omega, by go_num, ?_, HB7.out⟩
                have := HO7.out
                rw [← plV_one (k, t, -1), ← plV_append, show M + t + 1 = M + (t + 1) by omega] at this
                rw [plB_succ]
                simp only [List.append_assoc] at this ⊢
                exact this
              case measure => simp [intOf]; omega
            · obtain rfl : t = r := by omega
              go_wp2_with fail
              go_roundw
              case rel =>
                refine ⟨k + 1, by omega, by go_num, ?_, HW2.out⟩
                rw [plL_succ, Hpk.out, ← List.append_assoc, ← Hm.out]
                exact Ho2.out
              case measure => simp [intOf]; omega
    · obtain rfl : k = L - 1 := by omega
      have hki : ¬ ((((L - 1 : Nat) : Int) + 1) < L) := by omega
      go_wp2_with fail
      go_ret
      exact ⟨_, _, rfl, Ho0.out, HW0.out⟩
end Go.Proofs.Ytfiojofcafjfeaa
