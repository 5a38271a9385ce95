/- The walks of package bound's Fair and Turns, and of the reference's. -/
import Derived.Test.YtpoeppehijhnnaaProg
import Derived.Test.YtpoeppehijhnnaaBoundPlain
import Derived.Maps.OwnSet
import Derived.Maps.OwnOps
import Derived.KernelRfl
namespace Go.Proofs.Ytpoeppehijhnnaa
open Go.RowKit Go.Maps

theorem et_ints : ElemT Try.prog 22 3 (.int .i64 0) 1 8 := ⟨Try.underlying22, info_parts (by kernel_rfl), rfl, by decide⟩

theorem right_any (n : Int) (w : World) :
    Calls Try.prog 41 #[.int .i64 n] w fun e w' => e = .returned (.bool (rightB n)) ∧ w = w' := by
  by_cases h1 : 1 ≤ n
  · by_cases h2 : n ≤ 64
    · go_enter Try.func41, Try.ntmps41
      go_wp2
      go_ret
      exact ⟨by simp [rightB, h1, h2], rfl⟩
    · go_enter Try.func41, Try.ntmps41
      go_wp2
      go_ret
      exact ⟨by simp [rightB, h2], rfl⟩
  · go_enter Try.func41, Try.ntmps41
    go_wp2
    go_ret
    exact ⟨by simp [rightB]; omega, rfl⟩

/-- bound.Turns, where n is no more than 2000. -/
theorem turns_any (m n : Int) (w : World) (hn : n ≤ 2000) :
    Calls Try.prog 14 #[.int .i64 m, .int .i64 n] w fun e w' => ∃ v, e = .returned v ∧ w'.ownsRow w.heap.size 3 1 v (turnsOf m n).length (nums .i64 (turnsOf m n)) ∧ Below w.heap.size w w' := by
  by_cases hr : rightB m = true
  · have hm : 1 ≤ m ∧ m ≤ 64 := by simpa [rightB] using hr
    obtain ⟨hm1, hm2⟩ := hm
    have hT : turnsOf m n = turns m n.toNat := by rw [turnsOf, if_pos hr]
    rw [hT, turns_length]; clear hT
    go_enter Try.func14, Try.ntmps14
    go_wp2_with (go_at_call 41; refine (right_any _ _).mono ?_; rintro e w' ⟨rfl, rfl⟩)
    go_loopw [5, 11] (fun v i wr => ∃ k : Nat, k ≤ n.toNat ∧ i = .int .i64 k ∧ wr.ownsRow w.heap.size 3 1 v k (nums .i64 (turns m k)) ∧ Below w.heap.size w wr) (fun _ i _ => n.toNat - (intOf i).toNat)
    case atStart => exact ⟨0, Nat.zero_le _, rfl, World.ownsRow_nil _ _ _ _, Below.refl _ _⟩
    case round =>
      obtain ⟨k, hk, rfl, hown, hb⟩ := hrel
      by_cases hlt : (k : Int) < n
      · go_wp2_with (at_builtin; refine wpList_push et_ints _ rfl (.tmp 14) (.tmp 18) rfl w.heap.size _ k _ rfl hown [.int .i64 ((k : Int) % m)] rfl rfl (nums_cell .i64 [_]) (by omega) (by unfold maxLen; omega) hb.size ?_)
        intro g c w1 hown1 hb1 _
        have R : w1.ownsRow w.heap.size 3 1 (.slice (some ⟨g, 0, none⟩) (k + 1) c) (k + 1) (nums .i64 (turns m (k + 1))) := by
          rw [turns_succ, nums_append]; exact hown1
        have B := hb.trans hb1
        clear hown1 hb1 hown hb
        go_wp2
        go_roundw
        case rel => exact ⟨k + 1, by omega, by go_num, R, B⟩
        case measure => simp [intOf]; omega
      · obtain ⟨A, c, rfl, _⟩ := own_form hown
        go_wp2
        go_ret
        obtain rfl : k = n.toNat := by omega
        exact ⟨_, rfl, hown, hb⟩
  · rw [Bool.not_eq_true] at hr
    have hT : turnsOf m n = [] := by rw [turnsOf, hr]; rfl
    rw [hT]; clear hT
    go_enter Try.func14, Try.ntmps14
    go_wp2_with (go_at_call 41; refine (right_any _ _).mono ?_; rintro e w' ⟨rfl, rfl⟩)
    go_ret
    exact ⟨_, rfl, World.ownsRow_nil _ _ _ _, Below.refl _ _⟩

/-- The reference's Turns. -/
theorem rturns_any (m n : Int) (w : World) (hn : n ≤ 2000) :
    Calls Try.prog 16 #[.int .i64 m, .int .i64 n] w fun e w' => ∃ v, e = .returned v ∧ w'.ownsRow w.heap.size 3 1 v (turnsOf m n).length (nums .i64 (turnsOf m n)) ∧ Below w.heap.size w w' := by
  by_cases h1 : 1 ≤ m
  · by_cases h2 : m ≤ 64
    · have hr : rightB m = true := by simp [rightB, h1, h2]
      have hT : turnsOf m n = turns m n.toNat := by rw [turnsOf, if_pos hr]
      rw [hT, turns_length]; clear hT hr
      go_enter Try.func16, Try.ntmps16
      go_wp2
      go_loopw [5, 6] (fun v i wr => ∃ k : Nat, (k : Int) ≤ max n 0 ∧ i = .int .i64 k ∧ wr.ownsRow w.heap.size 3 1 v k (nums .i64 (turns m k)) ∧ Below w.heap.size w wr) (fun _ i _ => n.toNat - (intOf i).toNat)
      case atStart => exact ⟨0, by omega, rfl, World.ownsRow_nil _ _ _ _, Below.refl _ _⟩
      case round =>
        obtain ⟨k, hk, rfl, hown, hb⟩ := hrel
        by_cases hlt : (k : Int) < n
        · go_wp2_with (at_builtin; refine wpList_push et_ints _ rfl (.tmp 18) (.tmp 22) rfl w.heap.size _ k _ rfl hown [.int .i64 ((k : Int) % m)] rfl rfl (nums_cell .i64 [_]) (by omega) (by unfold maxLen; omega) hb.size ?_)
          intro g c w1 hown1 hb1 _
          have R : w1.ownsRow w.heap.size 3 1 (.slice (some ⟨g, 0, none⟩) (k + 1) c) (k + 1) (nums .i64 (turns m (k + 1))) := by
            rw [turns_succ, nums_append]; exact hown1
          have B := hb.trans hb1
          clear hown1 hb1 hown hb
          go_wp2
          go_roundw
          case rel => exact ⟨k + 1, by omega, by go_num, R, B⟩
          case measure => simp [intOf]; omega
        · obtain ⟨A, c, rfl, _⟩ := own_form hown
          go_wp2
          go_ret
          obtain rfl : k = n.toNat := by omega
          exact ⟨_, rfl, hown, hb⟩
    · have hT : turnsOf m n = [] := by rw [turnsOf, if_neg (by simp [rightB]; omega)]
      rw [hT]; clear hT
      go_enter Try.func16, Try.ntmps16
      go_wp2
      go_ret
      exact ⟨_, rfl, World.ownsRow_nil _ _ _ _, Below.refl _ _⟩
  · have hT : turnsOf m n = [] := by rw [turnsOf, if_neg (by simp [rightB]; omega)]
    rw [hT]; clear hT
    go_enter Try.func16, Try.ntmps16
    go_wp2
    go_ret
    exact ⟨_, rfl, World.ownsRow_nil _ _ _ _, Below.refl _ _⟩
end Go.Proofs.Ytpoeppehijhnnaa
