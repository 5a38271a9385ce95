/- Send, both ways in one; New; the example of the chapter. -/
import Derived.Test.YtpoeppehijhnnaaLinkSa
import Derived.Test.YtpoeppehijhnnaaLinkSb
namespace Go.Proofs.Ytpoeppehijhnnaa
open Go.RowKit

/-- The state behind a Send. -/
def LSt.send (s : LSt) (m : Msg) : LSt := { s with msgs := s.msgs ++ [m], peak := max s.peak (s.msgs.length + 1 - s.recv) }
def LSt.new (c : Nat) : LSt := ⟨c, [], 0, 0⟩

theorem linkSend (base b : Nat) (g : Option Nat) (s : LSt) (t : Tg) (A : Option Addr) (zs : List Int) (c : Nat) (w : World) (h : LinkAt w base b g s) (hroom : s.msgs.length < s.recv + s.cap) (hmany : s.msgs.length < 100000000000)
    (hbase : base ≤ w.heap.size) (hA : Rd w A (nums .i64 zs)) (hzl : zs.length ≤ 17592186043904) :
    Calls Try.prog 24 #[.pointer (some ⟨b, 0, none⟩), .agg #[.int .i64 t.a, .int .i64 t.b, .int .i64 t.c, .int .i64 t.d, .int .i64 t.e, .slice A zs.length c]] w fun e w' => e = .returned (.int .i64 0) ∧
      ∃ g', LinkAt w' base b g' (s.send ⟨t, zs⟩) ∧ Keep (linkS b g) w w' ∧ (g' = g ∨ ∃ k, g' = some k ∧ w.heap.size ≤ k) := by
  rcases Nat.lt_or_ge s.msgs.length s.cap with hc | hc
  · exact linkSend_app base b g s t A zs c w h hroom hc hmany hbase hA hzl
  · exact linkSend_store base b g s t A zs c w h hroom hc hmany hbase hA hzl

theorem linkAt_new (w : World) (base c : Nat) (hc : 1 ≤ c) (hc2 : c ≤ 1048576) : LinkAt (w.alloc (.cells #[.slice none 0 0, .int .i64 (c : Int), .int .i64 0, .int .i64 0, .int .i64 0] 81)) base w.heap.size none (LSt.new c) :=
  ⟨⟨hc, hc2, Nat.le_refl _, by simp [LSt.new], Nat.zero_le _, by simp [LSt.new], by simp [LSt.new]⟩, .slice none 0 0, [], heap_alloc_new w _, by simpa [LSt.new] using World.ownsRow_nil _ _ _ _, rfl, by simp [LSt.new], by simp, by simp [LSt.new]⟩

/-- The blocks of a link are its own call's. -/
theorem LinkAt.blocks {w : World} {base b : Nat} {g : Option Nat} {s : LSt} (h : LinkAt w base b g s) : b < w.heap.size ∧ ∀ i, g = some i → base ≤ i ∧ i < w.heap.size := by
  obtain ⟨ok, ring, rows, hc, hown, hg, _⟩ := h
  exact ⟨lt_of_block hc, fun i hi => hown.lt i (hg.trans hi)⟩

theorem keep_new {b : Nat} {g : Option Nat} {B : Nat} {w w' : World} (h : Keep (linkS b g) w w') (hB : B ≤ w.heap.size) (hb : B ≤ b) (hg : ∀ i, g = some i → B ≤ i) : Below B w w' :=
  h.toBelow hB fun k hk => by
    rcases hk with rfl | hk
    · exact hb
    · exact hg k hk

theorem alive18 (w : World) : Calls Try.prog 19 #[] w fun e w' => e = .returned (.bool true) ∧ Below w.heap.size w w' := by
  have h1 := linkNew 1 w (by decide)
  have H1 := Lib.hid h1; clear h1
  go_enter Try.func19, Try.ntmps19
  go_wp2_with fail
  refine H1.out.mono ?_
  rintro e w1 ⟨rfl, hw1⟩
  have hL1 := linkAt_new w w.heap.size 1 (by decide) (by decide)
  have hb1 : Below w.heap.size w w1 := by rw [hw1]; exact (Below.refl _ _).alloc (Nat.le_refl _) _
  rw [show ((1 : Nat) : Int) = 1 from rfl, ← hw1] at hL1
  have S1 := linkSend w.heap.size w.heap.size none (LSt.new 1) Tg.zero none [] 0 w1 hL1 (by simp [LSt.new]) (by simp [LSt.new]) hb1.size (Rd.nil _ _) (by simp)
  simp only [Tg.zero, List.length_nil] at S1
  have HS1 := Lib.hid S1; have Hw1 := Lib.hid hw1; clear S1 hw1 hL1 H1
  go_wp2_with fail
  refine HS1.out.mono ?_
  rintro e w2 ⟨rfl, g2, hL2, hk2, hg2⟩
  have hb2 : Below w.heap.size w w2 := hb1.trans (keep_new hk2 hb1.size (Nat.le_refl _) (fun i hi => by cases hi))
  have S2 := linkSend_full w.heap.size w.heap.size g2 _ #[.int .i64 0, .int .i64 0, .int .i64 0, .int .i64 0, .int .i64 0, .slice none 0 0] w2 hL2 (by simp [LSt.send, LSt.new])
  have HS2 := Lib.hid S2; have HL2 := Lib.hid hL2; clear S2 hL2 HS1 hk2 hg2
  go_wp2_with fail
  refine HS2.out.mono ?_
  rintro e w3 ⟨rfl, hk3⟩
  have hL3 := HL2.out.below hk3
  have hb3 : Below w.heap.size w w3 := hb2.trans (hk3.mono hb2.size)
  obtain ⟨ok3, ring3, rows3, hc3, _⟩ := hL3
  have hl := linkLen _ _ _ _ _ _ _ hc3 ok3.rs (by simp [LSt.send, LSt.new])
  rw [show (((LSt.new 1).send ⟨⟨0, 0, 0, 0, 0⟩, []⟩).msgs.length : Int) - (((LSt.new 1).send ⟨⟨0, 0, 0, 0, 0⟩, []⟩).recv : Int) = 1 from rfl] at hl
  have Hl := Lib.hid hl; clear hl hc3 ok3 HS2 hk3
  go_wp2_with fail
  refine Hl.out.mono ?_
  rintro e w4 ⟨rfl, n, rfl⟩
  go_wp2_with fail
  go_ret
  exact ⟨rfl, below_drewN hb3 _⟩
end Go.Proofs.Ytpoeppehijhnnaa
