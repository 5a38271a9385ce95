/- slices.Equal at []int. -/
import Derived.Test.YtpoeppehijhnnaaProg
import Derived.Test.YtpoeppehijhnnaaLib
import Derived.BigQuiet
import Derived.Deep.QuietTactic
namespace Go.Proofs.Ytpoeppehijhnnaa
open Go.RowKit

theorem equal_any (A1 A2 : Option Addr) (l1 l2 : List Int) (c1 c2 : Nat) (w : World) (h1 : Rd w A1 (nums .i64 l1)) (h2 : Rd w A2 (nums .i64 l2)) (hl : l1.length ≤ 140737488355328) :
    Calls Try.prog 15 #[.slice A1 l1.length c1, .slice A2 l2.length c2] w fun e w' => e = .returned (.bool (decide (l1 = l2))) ∧ ∃ n, w' = w.drewN n := by
  by_cases hln : l1.length = l2.length
  · have hlb : ((l1.length : Int) != (l2.length : Int)) = false := by simp [hln]
    go_enter Try.func15, Try.ntmps15
    go_wp2
    go_loopw [5, 13] (fun _ i wr => ∃ k : Nat, k ≤ l1.length ∧ i = .int .i64 k ∧ l1.take k = l2.take k ∧ ∃ n, wr = w.drewN n) (fun _ i _ => l1.length - (intOf i).toNat)
    case atStart => exact ⟨0, Nat.zero_le _, rfl, rfl, 0, rfl⟩
    case round =>
      obtain ⟨k, hk, rfl, hpre, n, rfl⟩ := hrel
      by_cases hlt : k < l2.length
      · obtain ⟨b1, o1, rfl, hc1⟩ := h1.num (k := k) (by omega)
        obtain ⟨b2, o2, rfl, hc2⟩ := h2.num (k := k) (by omega)
        go_wp2
        go_quiet (fail)
        go_wp2
        · have hx : (nth l1 k != nth l2 k) = true := by assumption
          go_ret
          refine ⟨ret_bool ?_, _, World.drewN_drewN _ _ _⟩
          symm; rw [decide_eq_false_iff_not]
          rintro rfl
          simp at hx
        · have hx : (nth l1 k != nth l2 k) = false := by assumption
          go_roundw
          case rel => exact ⟨k+1, by omega, by go_num, take_eq_succ (by omega) (by omega) hpre (by simpa using hx), _, rfl⟩
          case measure => simp [intOf]; omega
      · go_wp2
        go_ret
        refine ⟨ret_bool ?_, n, rfl⟩
        symm; rw [decide_eq_true_iff]
        obtain rfl : k = l1.length := by omega
        exact eq_of_take hln hpre
  · have hlb : ((l1.length : Int) != (l2.length : Int)) = true := by simp; omega
    go_enter Try.func15, Try.ntmps15
    go_wp2
    go_ret
    refine ⟨ret_bool ?_, 0, rfl⟩
    symm; rw [decide_eq_false_iff_not]
    rintro rfl
    exact hln rfl
end Go.Proofs.Ytpoeppehijhnnaa
