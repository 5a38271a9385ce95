/- The walks of package link: the small functions. -/
import Derived.Test.YtpoeppehijhnnaaProg
import Derived.Test.YtpoeppehijhnnaaLib
import Derived.KernelRfl
import Derived.BigQuiet
import Derived.Deep.QuietTactic
import Derived.Deep.RegionHeld3
import Derived.StillTailTactics
namespace Go.Proofs.Ytpoeppehijhnnaa
open Go.RowKit

/-- The cells of a link. -/
def LinkCells (w : World) (b : Nat) (ring : Value) (cap sent recv peak : Nat) : Prop :=
  w.heap[b]? = some (.cells #[ring, .int .i64 cap, .int .i64 sent, .int .i64 recv, .int .i64 peak] 81 (0, 0))

section
variable {w : World} {b : Nat} {ring : Value} {cap sent recv peak : Nat}
theorem LinkCells.c0 (h : LinkCells w b ring cap sent recv peak) : w.cell? ⟨b, 0, none⟩ = some ring := cell_of_row w b 0 _ _ _ h
theorem LinkCells.c1 (h : LinkCells w b ring cap sent recv peak) : w.cell? ⟨b, 1, none⟩ = some (.int .i64 cap) := cell_of_row w b 1 _ _ _ h
theorem LinkCells.c2 (h : LinkCells w b ring cap sent recv peak) : w.cell? ⟨b, 2, none⟩ = some (.int .i64 sent) := cell_of_row w b 2 _ _ _ h
theorem LinkCells.c3 (h : LinkCells w b ring cap sent recv peak) : w.cell? ⟨b, 3, none⟩ = some (.int .i64 recv) := cell_of_row w b 3 _ _ _ h
theorem LinkCells.c4 (h : LinkCells w b ring cap sent recv peak) : w.cell? ⟨b, 4, none⟩ = some (.int .i64 peak) := cell_of_row w b 4 _ _ _ h
theorem LinkCells.free (h : LinkCells w b ring cap sent recv peak) (i : Nat) : w.frozen? ⟨b, i, none⟩ = false := frozen_of_row w b i _ _ h
end

theorem linkLen_nil (w : World) : Calls Try.prog 23 #[.pointer none] w fun e w' => e = .returned (.int .i64 0) ∧ w = w' := by
  go_enter Try.func23, Try.ntmps23
  go_wp2
  go_ret
  exact ⟨rfl, rfl⟩

theorem linkLen (b : Nat) (ring : Value) (cap sent recv peak : Nat) (w : World) (h : LinkCells w b ring cap sent recv peak) (hle : recv ≤ sent) (hs : sent ≤ 17592186043904) :
    Calls Try.prog 23 #[.pointer (some ⟨b, 0, none⟩)] w fun e w' => e = .returned (.int .i64 ((sent : Int) - recv)) ∧ ∃ n, w' = w.drewN n := by
  have c2 := h.c2
  have c3 := h.c3
  go_enter Try.func23, Try.ntmps23
  go_wp2
  go_quiet (fail)
  go_wp2
  go_ret
  exact ⟨rfl, _, rfl⟩

/-- Len, of what two cells hold. -/
theorem linkLenC (b : Nat) (x y : Int) (w : World) (c2 : w.cell? ⟨b, 2, none⟩ = some (.int .i64 x)) (c3 : w.cell? ⟨b, 3, none⟩ = some (.int .i64 y)) (hb : 0 ≤ y ∧ y ≤ x ∧ x ≤ 17592186043904) :
    Calls Try.prog 23 #[.pointer (some ⟨b, 0, none⟩)] w fun e w' => e = .returned (.int .i64 (x - y)) ∧ ∃ n, w' = w.drewN n := by
  go_enter Try.func23, Try.ntmps23
  go_wp2
  go_quiet (fail)
  go_wp2
  go_ret
  exact ⟨rfl, _, rfl⟩

theorem linkPlace (b : Nat) (ring : Value) (cap sent recv peak : Nat) (n : Int) (w : World) (h : LinkCells w b ring cap sent recv peak) (hc : 1 ≤ cap) (hn : 0 ≤ n) (hc2 : cap ≤ 1048576) :
    Calls Try.prog 44 #[.pointer (some ⟨b, 0, none⟩), .int .i64 n] w fun e w' => e = .returned (.int .i64 (n % cap)) ∧ w = w' := by
  have c1 := h.c1
  go_enter Try.func44, Try.ntmps44
  go_wp2
  go_ret
  exact ⟨rfl, rfl⟩

theorem linkCap (b : Nat) (ring : Value) (cap sent recv peak : Nat) (w : World) (h : LinkCells w b ring cap sent recv peak) :
    Calls Try.prog 36 #[.pointer (some ⟨b, 0, none⟩)] w fun e w' => e = .returned (.int .i64 cap) ∧ w = w' := by
  have c1 := h.c1
  go_enter Try.func36, Try.ntmps36
  go_wp2
  go_ret
  exact ⟨rfl, rfl⟩
theorem linkCap_nil (w : World) : Calls Try.prog 36 #[.pointer none] w fun e w' => e = .returned (.int .i64 0) ∧ w = w' := by
  go_enter Try.func36, Try.ntmps36
  go_wp2
  go_ret
  exact ⟨rfl, rfl⟩

theorem linkPeak (b : Nat) (ring : Value) (cap sent recv peak : Nat) (w : World) (h : LinkCells w b ring cap sent recv peak) :
    Calls Try.prog 26 #[.pointer (some ⟨b, 0, none⟩)] w fun e w' => e = .returned (.int .i64 peak) ∧ w = w' := by
  have c4 := h.c4
  go_enter Try.func26, Try.ntmps26
  go_wp2
  go_ret
  exact ⟨rfl, rfl⟩
theorem linkPeak_nil (w : World) : Calls Try.prog 26 #[.pointer none] w fun e w' => e = .returned (.int .i64 0) ∧ w = w' := by
  go_enter Try.func26, Try.ntmps26
  go_wp2
  go_ret
  exact ⟨rfl, rfl⟩

theorem linkCounts (b : Nat) (ring : Value) (cap sent recv peak : Nat) (w : World) (h : LinkCells w b ring cap sent recv peak) :
    Calls Try.prog 34 #[.pointer (some ⟨b, 0, none⟩)] w fun e w' => e = .returned (.tuple #[.int .i64 sent, .int .i64 recv]) ∧ ∃ n, w' = w.drewN n := by
  have c2 := h.c2
  have c3 := h.c3
  go_enter Try.func34, Try.ntmps34
  go_wp2
  go_quiet (fail)
  go_wp2
  go_ret2
  exact ⟨rfl, _, rfl⟩
theorem linkCounts_nil (w : World) : Calls Try.prog 34 #[.pointer none] w fun e w' => e = .returned (.tuple #[.int .i64 0, .int .i64 0]) ∧ w = w' := by
  go_enter Try.func34, Try.ntmps34
  go_wp2
  go_ret2
  exact ⟨rfl, rfl⟩

theorem linkNew (c : Int) (w : World) (h : 1 ≤ c ∧ c ≤ 1048576) :
    Calls Try.prog 17 #[.int .i64 c] w fun e w' => e = .returned (.pointer (some ⟨w.heap.size, 0, none⟩)) ∧ w' = w.alloc (.cells #[.slice none 0 0, .int .i64 c, .int .i64 0, .int .i64 0, .int .i64 0] 81) := by
  obtain ⟨h1, h2⟩ := h
  go_enter Try.func17, Try.ntmps17
  go_wp2
  go_ret
  exact ⟨rfl, rfl⟩
theorem linkNew_no (c : Int) (w : World) (h : c < 1 ∨ 1048576 < c) :
    Calls Try.prog 17 #[.int .i64 c] w fun e w' => e = .returned (.pointer none) ∧ w = w' := by
  by_cases h1 : c < 1
  · go_enter Try.func17, Try.ntmps17
    go_wp2
    go_ret
    exact ⟨rfl, rfl⟩
  · have h2 : 1048576 < c := by omega
    go_enter Try.func17, Try.ntmps17
    go_wp2
    go_ret
    exact ⟨rfl, rfl⟩
end Go.Proofs.Ytpoeppehijhnnaa
