/- The walks of part.Count and Blocks. -/
import Derived.Test.YtaccfnffmbndhaaBlkPlain
import Derived.Test.YtaccfnffmbndhaaShapeN
set_option linter.unusedSimpArgs false
set_option linter.unusedVariables false
namespace Go.Proofs.Ytaccfnffmbndhaa
open Go.RowKit

theorem count_any (n size : Nat) (w : World) (hn : n ≤ 1048576) (hs : 1 ≤ size) (hs2 : size ≤ 1048576) :
    Calls Try.prog 37 #[.int .i64 n, .int .i64 size] w fun e w' => e = .returned (.int .i64 (cntQ n size : Int)) ∧ w = w' := by
  have hq : ¬ ((size : Int) < 1) := by omega
  by_cases h0 : n = 0
  · subst h0
    go_enter Try.func37, Try.ntmps37
    go_wp2
    go_ret
    exact ⟨rfl, rfl⟩
  · have hq2 : ¬ ((n : Int) < 1) := by omega
    have hq3 : (0 : Int) ≤ (n : Int) - 1 := by omega
    have he := ediv_pred n size (by omega)
    have hle := Nat.div_le_self (n - 1) size
    have hc : cntQ n size = (n - 1) / size + 1 := by unfold cntQ; rw [if_neg h0]
    rw [hc]
    obtain ⟨y, hy⟩ : ∃ y, (n - 1) / size = y := ⟨_, rfl⟩
    rw [hy] at he hle ⊢
    have htd : ((n : Int) - 1).tdiv size = y := by rw [Int.tdiv_eq_ediv_of_nonneg hq3, he]
    have Hy := Lib.hid hy; have Hc := Lib.hid hc; clear hy hc h0
    go_enter Try.func37, Try.ntmps37
    go_wp2
    go_ret
    exact ⟨rfl, rfl⟩
set_option maxHeartbeats 800000 in
theorem blocks_any (n size : Nat) (w : World) (hn : n ≤ 1048576) (hs : 1 ≤ size) (hs2 : size ≤ 1048576) :
    Calls Try.prog 30 #[.int .i64 n, .int .i64 size] w fun e w' => ∃ v, e = .returned v ∧ w'.ownsRow w.heap.size 54 2 v (cntQ n size) (blkVals n size (cntQ n size)) ∧ Below w.heap.size w w' := by
  have hco := count_any n size w hn hs hs2
  have hle := cntQ_le n size
  have hlt' := fun k (h : k < cntQ n size) => cntQ_lt h
  obtain ⟨m, hm⟩ : ∃ m, cntQ n size = m := ⟨_, rfl⟩
  rw [hm] at hco hle hlt' ⊢
  have Hco := Lib.hid hco; have Hlt := Lib.hid hlt'; clear hco hm hlt'
  go_enter Try.func30, Try.ntmps30
  go_wp2_with fail
  refine Hco.out.mono ?_
  rintro e w' ⟨rfl, rfl⟩
  go_wp2_with fail
  go_loopw [5, 11] (fun v x wr => ∃ k : Nat, k ≤ m ∧ x = .int .i64 k ∧ wr.ownsRow w.heap.size 54 2 v k (blkVals n size k) ∧ Below w.heap.size w wr) (fun _ x _ => m - (intOf x).toNat)
  case atStart => exact ⟨0, Nat.zero_le _, rfl, World.ownsRow_nil _ _ _ _, Below.refl _ _⟩
  case round =>
    obtain ⟨k, hk, rfl, hown, hb⟩ := hrel
    by_cases hlt : k < m
    · have hlo := Hlt.out k hlt
      obtain ⟨y, hy⟩ : ∃ y, k * size = y := ⟨_, rfl⟩
      rw [hy] at hlo
      have hmul : (k : Int) * (size : Int) = (y : Int) := by rw [← hy]; push_cast; rfl
      obtain ⟨Al, cl, rfl, _⟩ := own_form hown
      have Hy := Lib.hid hy; have Hown := Lib.hid hown; have Hb := Lib.hid hb; clear hown hb hy
      by_cases hsz : (size : Int) ≤ (n : Int) - y
      · have hsz2 : (y : Int) + size ≤ n := by omega
        go_wp2_with (at_builtin; refine wpList_push et_rngs _ rfl (.tmp 17) (.tmp 27) rfl w.heap.size (.slice Al k cl) k _ rfl Hown.out [.int .i64 (y : Int), .int .i64 ((y : Int) + size)] rfl rfl (nums_cell .i64 [_, _]) (by omega) (by unfold maxLen; omega) Hb.out.size ?_)
        intro g6 c6 w6 ho6 hb6 hg6
        have HO6 := Lib.hid ho6; have HB6 := Lib.hid (Hb.out.trans hb6)
        clear ho6 hb6 hg6
        go_wp2_with fail
        go_roundw
        case rel =>
          refine ⟨k + 1, by omega, by go_num, ?_, HB6.out⟩
          rw [blkVals_succ, Hy.out, show ((min (y + size) n : Nat) : Int) = (y : Int) + size by omega]
          exact HO6.out
        case measure => simp [intOf]; omega
      · have hsz2 : (n : Int) - y < size := by omega
        go_wp2_with (at_builtin; refine wpList_push et_rngs _ rfl (.tmp 17) (.tmp 27) rfl w.heap.size (.slice Al k cl) k _ rfl Hown.out [.int .i64 (y : Int), .int .i64 ((y : Int) + ((n : Int) - y))] rfl rfl (nums_cell .i64 [_, _]) (by omega) (by unfold maxLen; omega) Hb.out.size ?_)
        intro g6 c6 w6 ho6 hb6 hg6
        have HO6 := Lib.hid ho6; have HB6 := Lib.hid (Hb.out.trans hb6)
        clear ho6 hb6 hg6
        go_wp2_with fail
        go_roundw
        case rel =>
          refine ⟨k + 1, by omega, by go_num, ?_, HB6.out⟩
          rw [blkVals_succ, Hy.out, show ((min (y + size) n : Nat) : Int) = (y : Int) + ((n : Int) - y) by omega]
          exact HO6.out
        case measure => simp [intOf]; omega
    · obtain rfl : m = k := by omega
      have Hown := Lib.hid hown; have Hb := Lib.hid hb; clear hown hb
      go_wp2_with fail
      go_ret
      exact ⟨_, rfl, Hown.out, Hb.out⟩
end Go.Proofs.Ytaccfnffmbndhaa
