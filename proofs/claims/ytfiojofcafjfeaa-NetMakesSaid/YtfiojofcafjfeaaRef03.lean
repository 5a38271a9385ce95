/- sakiaref03: Differ, Same. -/
import Derived.Test.YtfiojofcafjfeaaProg
import Derived.Test.YtfiojofcafjfeaaLib
import Derived.BigQuiet
import Derived.Deep.QuietTactic
set_option linter.unusedSimpArgs false
set_option linter.unusedVariables false
namespace Go.Proofs.Ytfiojofcafjfeaa
open Go.RowKit

/-- What Differ answers, as far as it matters: below 0 just if the lists are one. -/
def DifferIs (l1 l2 : List Int) (e : Ending) : Prop := ∃ d : Int, e = .returned (.int .i64 d) ∧ -1 ≤ d ∧ (d < 0 ↔ l1 = l2)

theorem differ_any (A1 A2 : Option Addr) (l1 l2 : List Int) (c1 c2 : Nat) (w : World) (h1 : Rd w A1 (nums .i64 l1)) (h2 : Rd w A2 (nums .i64 l2)) (hl1 : l1.length ≤ 17592186043904) (hl2 : l2.length ≤ 17592186043904) :
    Calls Try.prog 36 #[.slice A1 l1.length c1, .slice A2 l2.length c2] w fun e w' => DifferIs l1 l2 e ∧ ∃ n, w' = w.drewN n := by
  go_enter Try.func36, Try.ntmps36
  go_wp2
  go_loopw [5] (fun i wr => ∃ k : Nat, k ≤ l1.length ∧ k ≤ l2.length ∧ i = .int .i64 k ∧ l1.take k = l2.take k ∧ ∃ n, wr = w.drewN n) (fun i _ => l1.length + l2.length + 1 - (intOf i).toNat)
  case atStart => exact ⟨0, Nat.zero_le _, Nat.zero_le _, rfl, rfl, 0, rfl⟩
  case round =>
    obtain ⟨k, hk1, hk2, rfl, hpre, n, rfl⟩ := hrel
    have Hpre := Lib.hid hpre; clear hpre
    by_cases hlt1 : k < l1.length
    · by_cases hlt2 : k < l2.length
      · obtain ⟨b1, o1, rfl, hc1⟩ := h1.num hlt1
        obtain ⟨b2, o2, rfl, hc2⟩ := h2.num hlt2
        have g1 : decide ((l1.length : Int) ≤ (k : Int)) = false := by simp; omega
        have g2 : decide ((l2.length : Int) ≤ (k : Int)) = false := by simp; omega
        go_wp2
        go_quiet (fail)
        go_wp2
        · have hx : (l1.length ≤ k ∨ l2.length ≤ k) ∨ (nth l1 k != nth l2 k) = true := by assumption
          have hx : (nth l1 k != nth l2 k) = true := hx.resolve_left (by omega)
          have Hx := Lib.hid hx; clear hx
          go_ret
          refine ⟨⟨k, rfl, by omega, fun h => by omega, fun h => ?_⟩, _, World.drewN_drewN _ _ _⟩
          subst h
          have := Hx.out
          simp at this
        · have hx : (¬l1.length ≤ k ∧ ¬l2.length ≤ k) ∧ (nth l1 k != nth l2 k) = false := by assumption
          have hx := hx.2
          have Hx := Lib.hid hx; clear hx
          go_roundw
          case rel => exact ⟨k + 1, by omega, by omega, by go_num, take_eq_succ hlt1 hlt2 Hpre.out (by have := Hx.out; simpa using this), _, rfl⟩
          case measure => simp [intOf]; omega
      · have g1 : decide ((l1.length : Int) ≤ (k : Int)) = false := by simp; omega
        have g2 : decide ((l2.length : Int) ≤ (k : Int)) = true := by simp; omega
        go_wp2
        go_quiet (fail)
        go_wp2
        go_ret
        refine ⟨⟨k, rfl, by omega, fun h => by omega, fun h => ?_⟩, _, by first | rfl | exact World.drewN_drewN _ _ _⟩
        subst h; omega
    · by_cases hlt2 : k < l2.length
      · obtain rfl : k = l1.length := by omega
        go_wp2
        go_quiet (fail)
        go_wp2
        go_ret
        refine ⟨⟨l1.length, rfl, by omega, fun h => by omega, fun h => ?_⟩, _, by first | rfl | exact World.drewN_drewN _ _ _⟩
        subst h; omega
      · go_wp2
        go_ret
        refine ⟨⟨-1, rfl, by omega, fun _ => ?_, fun _ => by omega⟩, n, rfl⟩
        have e1 : k = l1.length := by omega
        exact eq_of_take (by omega) (by rw [← e1]; exact Hpre.out)

theorem same_any (A1 A2 : Option Addr) (l1 l2 : List Int) (c1 c2 : Nat) (w : World) (h1 : Rd w A1 (nums .i64 l1)) (h2 : Rd w A2 (nums .i64 l2)) (hl1 : l1.length ≤ 17592186043904) (hl2 : l2.length ≤ 17592186043904) :
    Calls Try.prog 14 #[.slice A1 l1.length c1, .slice A2 l2.length c2] w fun e w' => e = .returned (.bool (decide (l1 = l2))) ∧ ∃ n, w' = w.drewN n := by
  have hd := differ_any A1 A2 l1 l2 c1 c2 w h1 h2 hl1 hl2
  have Hd := Lib.hid hd; clear hd
  go_enter Try.func14, Try.ntmps14
  go_wp2_with fail
  refine Hd.out.mono ?_
  rintro e w1 ⟨⟨d, rfl, hd0, hd1⟩, n, rfl⟩
  by_cases hd : d < 0
  · have h := hd1.1 hd
    have H := Lib.hid h; clear h hd1
    go_wp2
    go_ret
    exact ⟨ret_bool (by rw [decide_eq_true H.out]; first | done | simpa using hd), n, rfl⟩
  · have h : ¬ l1 = l2 := fun e => hd (hd1.2 e)
    have H := Lib.hid h; clear h hd1
    go_wp2
    go_ret
    exact ⟨ret_bool (by rw [decide_eq_false H.out]; first | done | simpa using hd), n, rfl⟩
end Go.Proofs.Ytfiojofcafjfeaa
