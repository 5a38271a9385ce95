/- sakiaref03.Few. -/
import Derived.Test.YtpoeppehijhnnaaProg
import Derived.Test.YtpoeppehijhnnaaLib
namespace Go.Proofs.Ytpoeppehijhnnaa
open Go.RowKit

def vecAt (l : List (List Int)) (k : Nat) : List Int := l.getD k []
/-- A slice of slices of numbers. -/
def Vecs (w : World) (A : Option Addr) (vs : List (List Int)) : Prop :=
  ∀ k, k < vs.length → ∃ b o, A = some ⟨b, o, none⟩ ∧ ∃ B c, w.cell? ⟨b, o + k, none⟩ = some (.slice B (vecAt vs k).length c) ∧ Rd w B (nums .i64 (vecAt vs k))
theorem Vecs.below {w w' : World} {A : Option Addr} {vs : List (List Int)} (h : Vecs w A vs) (hb : Below w.heap.size w w') : Vecs w' A vs := fun k hk => by
  obtain ⟨b, o, hA, B, c, hc, hr⟩ := h k hk
  exact ⟨b, o, hA, B, c, (World.cell?_of_block (w := w) (hb.block _ (lt_of_cell hc))).trans hc, hr.below hb⟩

def fewN (vs : List (List Int)) : Nat → Nat
  | 0 => 0
  | k + 1 => fewN vs k + min (vecAt vs k).length 2000
theorem fewN_le (vs : List (List Int)) : ∀ k, fewN vs k ≤ 2000 * k := by
  intro k
  induction k with
  | zero => simp [fewN]
  | succ k ih => simp only [fewN]; omega
def few3 (vs : List (List Int)) : Bool := decide (vs.length ≤ 60) && decide (fewN vs (min vs.length 100) ≤ 1500)
theorem fewN_each (vs : List (List Int)) : ∀ n k, k < n → min (vecAt vs k).length 2000 ≤ fewN vs n := by
  intro n
  induction n with
  | zero => intro k hk; omega
  | succ n ih =>
    intro k hk
    simp only [fewN]
    rcases Nat.lt_or_ge k n with h | h
    · have := ih k h; omega
    · obtain rfl : k = n := by omega
      omega
theorem few3_len {vs : List (List Int)} (h : few3 vs = true) : vs.length ≤ 60 ∧ ∀ k, k < vs.length → (vecAt vs k).length ≤ 1500 := by
  unfold few3 at h
  rw [Bool.and_eq_true, decide_eq_true_iff, decide_eq_true_iff] at h
  refine ⟨h.1, fun k hk => ?_⟩
  have := fewN_each vs (min vs.length 100) k (by omega)
  omega

theorem few3_any (A : Option Addr) (vs : List (List Int)) (c : Nat) (w : World) (hA : Vecs w A vs) (hl : vs.length ≤ 9223372036854775807) :
    Calls Try.prog 18 #[.slice A vs.length c] w fun e w' => e = .returned (.bool (few3 vs)) ∧ w = w' := by
  go_enter Try.func18, Try.ntmps18
  go_wp2
  go_loop [3, 4] (fun n i => ∃ k : Nat, k ≤ vs.length ∧ k ≤ 100 ∧ i = .int .i64 k ∧ n = .int .i64 (fewN vs k)) (fun _ i => 100 - (intOf i).toNat)
  case atStart => exact ⟨0, Nat.zero_le _, by omega, rfl, rfl⟩
  case round =>
    obtain ⟨k, hk, hk2, rfl, rfl⟩ := hrel
    have hf := fewN_le vs k
    by_cases hlt : k < vs.length
    · by_cases hlt2 : k < 100
      · obtain ⟨b, o, rfl, B, d, hc, _⟩ := hA k hlt
        go_wp2
        all_goals
          go_round
          case rel => exact ⟨k + 1, by omega, by omega, by go_num, by simp only [fewN]; go_num⟩
          case measure => simp [intOf]; omega
      · obtain rfl : k = 100 := by omega
        have h : few3 vs = false := by unfold few3; rw [decide_eq_false (by omega)]; rfl
        have H := Lib.hid h; clear h
        go_wp2
        all_goals
          go_ret
          exact ⟨ret_bool H.out.symm, rfl⟩
    · obtain rfl : k = vs.length := by omega
      have hm : min vs.length 100 = vs.length := by omega
      have h : few3 vs = (decide (vs.length ≤ 60) && decide (fewN vs vs.length ≤ 1500)) := by unfold few3; rw [hm]
      have H := Lib.hid h; clear h hm
      by_cases h1 : vs.length ≤ 60
      · by_cases h2 : fewN vs vs.length ≤ 1500
        · go_wp2
          go_ret
          exact ⟨ret_bool (by rw [H.out]; simp [h1]; omega), rfl⟩
        · go_wp2
          go_ret
          exact ⟨ret_bool (by rw [H.out]; simp [h1]; omega), rfl⟩
      · go_wp2
        go_ret
        exact ⟨ret_bool (by rw [H.out]; simp [h1]), rfl⟩
end Go.Proofs.Ytpoeppehijhnnaa
