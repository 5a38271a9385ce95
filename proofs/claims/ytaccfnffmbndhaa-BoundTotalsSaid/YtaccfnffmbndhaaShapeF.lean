/- The walks of package shape: the functions that New hands on. -/
import Derived.Test.YtaccfnffmbndhaaShape
import Derived.RegionTactic
set_option linter.unusedSimpArgs false
set_option linter.unusedVariables false
namespace Go.Proofs.Ytaccfnffmbndhaa
open Go.RowKit

theorem wrong_any (n : Int) (w : World) : Calls Try.prog 43 #[.int .i64 n] w fun e w' => e = .returned (.bool (!decide (1 ≤ n ∧ n ≤ 1048576))) ∧ w = w' := by
  by_cases h1 : n < 1
  · go_enter Try.func43, Try.ntmps43
    go_wp2
    go_ret
    exact ⟨ret_bool (by first | (simp; omega) | (simp; done)), rfl⟩
  · by_cases h2 : 1048576 < n
    · go_enter Try.func43, Try.ntmps43
      go_wp2
      go_ret
      exact ⟨ret_bool (by first | (simp; omega) | (simp; done)), rfl⟩
    · go_enter Try.func43, Try.ntmps43
      go_wp2
      go_ret
      exact ⟨ret_bool (by first | (simp; omega) | (simp; done)), rfl⟩

/-- What IndexFunc answers, as far as it matters: below 0 just if no number is wrong. -/
def IndexIs (sz : List Int) (e : Ending) : Prop := ∃ d : Int, e = .returned (.int .i64 d) ∧ -1 ≤ d ∧ (d < 0 ↔ ∀ k, k < sz.length → 1 ≤ nth sz k ∧ nth sz k ≤ 1048576)

theorem index_any (A : Option Addr) (sz : List Int) (c : Nat) (w : World) (hA : Rd w A (nums .i64 sz)) (hl : sz.length ≤ 17592186043904) :
    Calls Try.prog 53 #[.slice A sz.length c, .func (.func 43) #[] #[]] w fun e w' => IndexIs sz e ∧ w = w' := by
  obtain ⟨n, hn⟩ : ∃ n, sz.length = n := ⟨_, rfl⟩
  have hw := fun z => wrong_any z w
  rw [hn] at hl ⊢
  have HA := Lib.hid hA; have Hn := Lib.hid hn; have Hw := Lib.hid hw; clear hA hn hw
  go_enter Try.func53, Try.ntmps53
  go_wp2_with fail
  go_loop [5, 8] (fun _ i => ∃ k : Nat, k ≤ n ∧ i = .int .i64 k ∧ Hid (∀ j, j < k → 1 ≤ nth sz j ∧ nth sz j ≤ 1048576)) (fun _ i => n - (intOf i).toNat)
  case atStart => exact ⟨0, Nat.zero_le _, rfl, Lib.hid fun j hj => by omega⟩
  case round =>
    obtain ⟨k, hk, rfl, Hall⟩ := hrel
    by_cases hlt : k < n
    · obtain ⟨b, o, rfl, p⟩ := HA.out.num (show k < sz.length by rw [Hn.out]; exact hlt)
      by_cases hz : 1 ≤ nth sz k ∧ nth sz k ≤ 1048576
      · have hd : (!decide (1 ≤ nth sz k ∧ nth sz k ≤ 1048576)) = false := by simp [hz.1, hz.2]
        have hw := Hw.out (nth sz k)
        rw [hd] at hw
        have Hz := Lib.hid hz; have Hw2 := Lib.hid hw; clear hz hw hd
        go_wp2_with fail
        refine Hw2.out.mono ?_
        rintro e w' ⟨rfl, rfl⟩
        go_wp2_with fail
        go_round
        case rel => exact ⟨k + 1, by omega, by go_num, Lib.hid (p := ∀ j, j < k + 1 → 1 ≤ nth sz j ∧ nth sz j ≤ 1048576) fun j hj => by
          rcases Nat.lt_or_ge j k with h | h
          · exact Hall.out j h
          · obtain rfl : j = k := by omega
            exact Hz.out⟩
        case measure => simp [intOf]; omega
      · have hd : (!decide (1 ≤ nth sz k ∧ nth sz k ≤ 1048576)) = true := by simp; omega
        have hw := Hw.out (nth sz k)
        rw [hd] at hw
        have Hz := Lib.hid hz; have Hw2 := Lib.hid hw; clear hz hw hd
        go_wp2_with fail
        refine Hw2.out.mono ?_
        rintro e w' ⟨rfl, rfl⟩
        go_wp2_with fail
        go_ret
        exact ⟨⟨k, rfl, by omega, fun h => by omega, fun h => absurd (h k (by rw [Hn.out]; exact hlt)) Hz.out⟩, rfl⟩
    · obtain rfl : k = n := by omega
      go_wp2_with fail
      go_ret
      exact ⟨⟨-1, rfl, by omega, fun _ => by rw [Hn.out]; exact Hall.out, fun _ => by omega⟩, rfl⟩

theorem contains_yes (A : Option Addr) (sz : List Int) (c : Nat) (w : World) (hA : Rd w A (nums .i64 sz)) (hl : sz.length ≤ 17592186043904) (h : ¬ ∀ k, k < sz.length → 1 ≤ nth sz k ∧ nth sz k ≤ 1048576) :
    Calls Try.prog 44 #[.slice A sz.length c, .func (.func 43) #[] #[]] w fun e w' => e = .returned (.bool true) ∧ w = w' := by
  have hi := index_any A sz c w hA hl
  have Hi := Lib.hid hi; have H := Lib.hid h; clear hi hA h
  go_enter Try.func44, Try.ntmps44
  go_wp2_with fail
  refine Hi.out.mono ?_
  rintro e w' ⟨⟨d, rfl, hd, hiff⟩, rfl⟩
  have h0 : 0 ≤ d := by
    rcases Int.lt_or_le d 0 with h | h
    · exact absurd (hiff.1 h) H.out
    · exact h
  clear hiff
  go_wp2
  go_ret
  exact ⟨ret_bool (by simp [h0]), rfl⟩

theorem contains_no (A : Option Addr) (sz : List Int) (c : Nat) (w : World) (hA : Rd w A (nums .i64 sz)) (hl : sz.length ≤ 17592186043904) (h : ∀ k, k < sz.length → 1 ≤ nth sz k ∧ nth sz k ≤ 1048576) :
    Calls Try.prog 44 #[.slice A sz.length c, .func (.func 43) #[] #[]] w fun e w' => e = .returned (.bool false) ∧ w = w' := by
  have hi := index_any A sz c w hA hl
  have Hi := Lib.hid hi; have H := Lib.hid h; clear hi hA h
  go_enter Try.func44, Try.ntmps44
  go_wp2_with fail
  refine Hi.out.mono ?_
  rintro e w' ⟨⟨d, rfl, hd, hiff⟩, rfl⟩
  have h0 : d < 0 := hiff.2 H.out
  clear hiff
  go_wp2
  go_ret
  exact ⟨ret_bool (by simp; omega), rfl⟩

/-- The next range. -/
theorem next_any (m N : Nat) (P S : Nat) (v0 v1 v2 : Value) (w : World) (hP : w.heap[P]? = some (.cells #[.pointer (some ⟨S, 0, none⟩)] 69 (0, 0)))
    (hS : w.heap[S]? = some (.cells #[v0, v1, v2, .int .i64 N] 92 (0, 0))) (hN : N ≤ 17592202821632) (hm : m ≤ 17592202821632) :
    Calls Try.prog 46 #[.int .i64 m, .pointer (some ⟨P, 0, none⟩)] w fun e w' => e = .returned (.agg #[.int .i64 N, .int .i64 ((N + m : Nat) : Int)]) ∧ w'.heap[S]? = some (.cells #[v0, v1, v2, .int .i64 ((N + m : Nat) : Int)] 92 (0, 0)) ∧ Keep (fun i => i = S) w w' := by
  obtain ⟨p0, pf⟩ := bx1 hP
  obtain ⟨⟨s0, s1, s2, s3⟩, sf⟩ := bx4 hS
  have hPl := lt_of_block hP
  have hSl := lt_of_block hS
  have HS := Lib.hid hS; clear hS hP
  rw [Int.natCast_add]
  go_enter Try.func46, Try.ntmps46
  go_wp2_with fail
  go_region
  all_goals go_wp2_with fail
  refine bodyPost_ret (v := .agg #[.int .i64 N, .int .i64 ((N : Int) + (m : Int))]) (by simp [results, Try.results46, go_sem]) rfl ⟨rfl, ?_, ?_⟩
  · have h1 : (w.setCell ⟨S, 3, none⟩ (.int .i64 ((N : Int) + (m : Int)))).heap[S]? = some (.cells #[v0, v1, v2, .int .i64 ((N : Int) + (m : Int))] 92 (0, 0)) := heap_setCell_same w S 3 _ _ _ HS.out
    have l1 := lt_of_block h1
    exact (Below.heap_alloc _ _ S (by simp at l1 ⊢; omega)).trans ((Below.heap_alloc _ _ S l1).trans h1)
  · exact (((Keep.setCell (S := fun i => i = S) (Keep.refl _ w) ⟨S, 3, none⟩ (.inr rfl) _).alloc _).alloc _).drew
end Go.Proofs.Ytaccfnffmbndhaa
