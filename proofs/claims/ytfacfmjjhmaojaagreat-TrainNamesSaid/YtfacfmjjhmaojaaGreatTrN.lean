/- The names of the modes: train.ways, Name and Mode; the reference's Name. -/
import Derived.Test.YtfacfmjjhmaojaaGreatProg
import Derived.Test.YtfacfmjjhmaojaaGreatLib
import Derived.KernelRfl
set_option linter.unusedSimpArgs false
set_option linter.unusedVariables false
namespace Go.Proofs.YtfacfmjjhmaojaaGreat
open Go.RowKit

def sSer : ByteArray := ⟨#[115, 101, 114, 105, 97, 108]⟩
def sTur : ByteArray := ⟨#[116, 117, 114, 110, 115]⟩
def sCre : ByteArray := ⟨#[99, 114, 101, 119]⟩
/-- The name of a mode. -/
def nmS (m : Int) : ByteArray := if m = 1 then ⟨#[115, 101, 114, 105, 97, 108]⟩ else if m = 2 then ⟨#[116, 117, 114, 110, 115]⟩ else if m = 3 then ⟨#[99, 114, 101, 119]⟩ else ⟨#[]⟩
/-- Is it the name? -/
def hitB (t s : ByteArray) : Bool := t.toList == s.toList
/-- The mode with a name. -/
def modeI (s : ByteArray) : Int := if hitB sSer s = true then 1 else if hitB sTur s = true then 2 else if hitB sCre s = true then 3 else 0
theorem ways_any (w : World) : Calls Tryz.prog 8 #[] w fun e w' => e = .returned (.slice (some ⟨w.heap.size, 0, none⟩) 4 4) ∧ w'.heap[w.heap.size]? = some (.cells #[.string ⟨#[]⟩, Value.nilFunc, .string ⟨#[115, 101, 114, 105, 97, 108]⟩, .func (.func 11) #[] #[], .string ⟨#[116, 117, 114, 110, 115]⟩, .func (.func 12) #[] #[], .string ⟨#[99, 114, 101, 119]⟩, .func (.func 13) #[] #[]] 29 (0, 0)) ∧ Below w.heap.size w w' := by
  have h := heap_alloc_new w (.cells #[.string ⟨#[]⟩, Value.nilFunc, .string ⟨#[115, 101, 114, 105, 97, 108]⟩, .func (.func 11) #[] #[], .string ⟨#[116, 117, 114, 110, 115]⟩, .func (.func 12) #[] #[], .string ⟨#[99, 114, 101, 119]⟩, .func (.func 13) #[] #[]] 29)
  have hb : Below w.heap.size w (w.alloc (.cells #[.string ⟨#[]⟩, Value.nilFunc, .string ⟨#[115, 101, 114, 105, 97, 108]⟩, .func (.func 11) #[] #[], .string ⟨#[116, 117, 114, 110, 115]⟩, .func (.func 12) #[] #[], .string ⟨#[99, 114, 101, 119]⟩, .func (.func 13) #[] #[]] 29)) := (Below.refl _ w).alloc (Nat.le_refl _) _
  have H := Lib.hid h; have HB := Lib.hid hb
  clear h hb
  go_enter Tryz.func8, Tryz.ntmps8
  go_wp2_with fail
  go_ret
  exact ⟨rfl, H.out, HB.out⟩
theorem mode1_any (s t : ByteArray) (f : Value) (B : Nat) (w : World) (hB : w.heap[B]? = some (.cells #[.string s] 9 (0, 0))) :
    Calls Tryz.prog 10 #[.agg #[.string t, f], .pointer (some ⟨B, 0, none⟩)] w fun e w' => e = .returned (.bool (hitB t s && !s.toList.isEmpty)) ∧ Below w.heap.size w w' := by
  have q := bx1 hB
  have hl := lt_of_block hB
  have hb : Below w.heap.size w (w.alloc (.cells #[.string t, f] 29)) := (Below.refl _ w).alloc (Nat.le_refl _) _
  have HB := Lib.hid hb
  clear hb
  by_cases h : t.toList = s.toList
  · go_enter Tryz.func10, Tryz.ntmps10
    go_wp2_with fail
    go_ret
    exact ⟨by simp [hitB, h], HB.out⟩
  · have hf : (t.toList == s.toList) = false := by simpa using h
    go_enter Tryz.func10, Tryz.ntmps10
    go_wp2_with fail
    go_ret
    exact ⟨by simp [hitB, hf], HB.out⟩
theorem rname_any (m : Int) (w : World) : Calls Tryz.prog 6 #[.int .i64 m] w fun e w' => e = .returned (.string (nmS m)) ∧ Below w.heap.size w w' := by
  by_cases h1 : m < 1
  · have e : nmS m = ⟨#[]⟩ := by unfold nmS; rw [if_neg (by omega), if_neg (by omega), if_neg (by omega)]
    rw [e]
    go_enter Tryz.func6, Tryz.ntmps6
    go_wp2
    go_ret
    exact ⟨rfl, Below.refl _ _⟩
  · by_cases h2 : 3 < m
    · have e : nmS m = ⟨#[]⟩ := by unfold nmS; rw [if_neg (by omega), if_neg (by omega), if_neg (by omega)]
      rw [e]
      go_enter Tryz.func6, Tryz.ntmps6
      go_wp2
      go_ret
      exact ⟨rfl, Below.refl _ _⟩
    · have h : m = 1 ∨ m = 2 ∨ m = 3 := by omega
      rcases h with rfl | rfl | rfl <;> (
        go_enter Tryz.func6, Tryz.ntmps6
        go_wp2
        go_ret
        exact ⟨rfl, (Below.refl _ w).alloc (Nat.le_refl _) _⟩)
theorem name_any (m : Int) (w : World) : Calls Tryz.prog 4 #[.int .i64 m] w fun e w' => e = .returned (.string (nmS m)) ∧ Below w.heap.size w w' := by
  by_cases h1 : m < 1
  · have e : nmS m = ⟨#[]⟩ := by unfold nmS; rw [if_neg (by omega), if_neg (by omega), if_neg (by omega)]
    rw [e]
    go_enter Tryz.func4, Tryz.ntmps4
    go_wp2
    go_ret
    exact ⟨rfl, Below.refl _ _⟩
  · by_cases h2 : 3 < m
    · have e : nmS m = ⟨#[]⟩ := by unfold nmS; rw [if_neg (by omega), if_neg (by omega), if_neg (by omega)]
      rw [e]
      go_enter Tryz.func4, Tryz.ntmps4
      go_wp2
      go_ret
      exact ⟨rfl, Below.refl _ _⟩
    · have h : m = 1 ∨ m = 2 ∨ m = 3 := by omega
      rcases h with rfl | rfl | rfl <;> (
        go_enter Tryz.func4, Tryz.ntmps4
        go_wp2_with fail
        refine (ways_any w).mono ?_
        rintro e w1 ⟨rfl, hw, k1⟩
        have q := bx8 hw
        have K1 := Lib.hid k1
        clear k1 hw
        go_wp2_with fail
        go_ret
        exact ⟨rfl, K1.out⟩)
theorem tl_ser : (⟨#[115, 101, 114, 105, 97, 108]⟩ : ByteArray).toList = [115, 101, 114, 105, 97, 108] := by kernel_rfl
theorem tl_tur : (⟨#[116, 117, 114, 110, 115]⟩ : ByteArray).toList = [116, 117, 114, 110, 115] := by kernel_rfl
theorem tl_cre : (⟨#[99, 114, 101, 119]⟩ : ByteArray).toList = [99, 114, 101, 119] := by kernel_rfl
theorem tl_nil : (⟨#[]⟩ : ByteArray).toList = [] := by kernel_rfl
/-- Where the name stands. -/
def idxI (s : ByteArray) : Int := if hitB sSer s = true then 1 else if hitB sTur s = true then 2 else if hitB sCre s = true then 3 else -1
theorem hit_some {s : ByteArray} (h : s.toList.isEmpty = true) : hitB sSer s = false ∧ hitB sTur s = false ∧ hitB sCre s = false := by
  have h' : s.toList = [] := by simpa using h
  unfold hitB sSer sTur sCre
  rw [h', tl_ser, tl_tur, tl_cre]
  exact ⟨rfl, rfl, rfl⟩
theorem hit_nil (s : ByteArray) : (hitB ⟨#[]⟩ s && !s.toList.isEmpty) = false := by
  unfold hitB
  rw [tl_nil]
  cases s.toList <;> rfl
theorem hit_and {t s : ByteArray} (ht : t = sSer ∨ t = sTur ∨ t = sCre) : (hitB t s && !s.toList.isEmpty) = hitB t s := by
  cases he : s.toList.isEmpty with
  | false => simp
  | true =>
    obtain ⟨h1, h2, h3⟩ := hit_some he
    rcases ht with rfl | rfl | rfl <;> simp [h1, h2, h3]
set_option maxRecDepth 100000 in
set_option maxHeartbeats 1000000 in
theorem idx_any (s : ByteArray) (V B : Nat) (w : World) (hV : w.heap[V]? = some (.cells #[.string ⟨#[]⟩, Value.nilFunc, .string ⟨#[115, 101, 114, 105, 97, 108]⟩, .func (.func 11) #[] #[], .string ⟨#[116, 117, 114, 110, 115]⟩, .func (.func 12) #[] #[], .string ⟨#[99, 114, 101, 119]⟩, .func (.func 13) #[] #[]] 29 (0, 0))) (hB : w.heap[B]? = some (.cells #[.string s] 9 (0, 0))) :
    Calls Tryz.prog 9 #[.slice (some ⟨V, 0, none⟩) 4 4, .func (.func 10) #[] #[.pointer (some ⟨B, 0, none⟩)]] w fun e w' => e = .returned (.int .i64 (idxI s)) ∧ Below w.heap.size w w' := by
  have tV := fun w' q => bx8 (sb hV w' q)
  have hm := fun t f w' (q : Below w.heap.size w w') => mode1_any s t f B w' (sb hB w' q)
  have i1 : hitB sSer s = true → idxI s = 1 := fun h => if_pos h
  have i2 : hitB sSer s = false → hitB sTur s = true → idxI s = 2 := fun h h' => by unfold idxI; rw [if_neg (by simp [h]), if_pos h']
  have i3 : hitB sSer s = false → hitB sTur s = false → hitB sCre s = true → idxI s = 3 := fun h h' h'' => by unfold idxI; rw [if_neg (by simp [h]), if_neg (by simp [h']), if_pos h'']
  have i4 : hitB sSer s = false → hitB sTur s = false → hitB sCre s = false → idxI s = -1 := fun h h' h'' => by unfold idxI; rw [if_neg (by simp [h]), if_neg (by simp [h']), if_neg (by simp [h''])]
  have m0 := hm ⟨#[]⟩ Value.nilFunc
  have m1 := hm ⟨#[115, 101, 114, 105, 97, 108]⟩ (.func (.func 11) #[] #[])
  have m2 := hm ⟨#[116, 117, 114, 110, 115]⟩ (.func (.func 12) #[] #[])
  have m3 := hm ⟨#[99, 114, 101, 119]⟩ (.func (.func 13) #[] #[])
  rw [hit_nil] at m0
  rw [hit_and (t := ⟨#[115, 101, 114, 105, 97, 108]⟩) (.inl rfl)] at m1
  rw [hit_and (t := ⟨#[116, 117, 114, 110, 115]⟩) (.inr (.inl rfl))] at m2
  rw [hit_and (t := ⟨#[99, 114, 101, 119]⟩) (.inr (.inr rfl))] at m3
  obtain ⟨b1, hb1⟩ : ∃ b, hitB sSer s = b := ⟨_, rfl⟩
  obtain ⟨b2, hb2⟩ : ∃ b, hitB sTur s = b := ⟨_, rfl⟩
  obtain ⟨b3, hb3⟩ : ∃ b, hitB sCre s = b := ⟨_, rfl⟩
  obtain ⟨r, hr⟩ : ∃ r, idxI s = r := ⟨_, rfl⟩
  have e1 : hitB ⟨#[115, 101, 114, 105, 97, 108]⟩ s = b1 := hb1
  have e2 : hitB ⟨#[116, 117, 114, 110, 115]⟩ s = b2 := hb2
  have e3 : hitB ⟨#[99, 114, 101, 119]⟩ s = b3 := hb3
  rw [e1] at m1
  rw [e2] at m2
  rw [e3] at m3
  rw [hb1] at i1 i2 i3 i4
  rw [hb2] at i2 i3 i4
  rw [hb3] at i3 i4
  rw [hr] at i1 i2 i3 i4 ⊢
  have M0 := Lib.hid m0; have M1 := Lib.hid m1; have M2 := Lib.hid m2; have M3 := Lib.hid m3; have I1 := Lib.hid i1; have I2 := Lib.hid i2; have I3 := Lib.hid i3; have I4 := Lib.hid i4
  clear hV hB hm m0 m1 m2 m3 i1 i2 i3 i4 hb1 hb2 hb3 hr e1 e2 e3
  go_enter Tryz.func9, Tryz.ntmps9
  go_wp2_with fail
  have q0 := br w
  go_loopw [8] (fun y wr => ∃ k : Nat, k ≤ 4 ∧ y = .int .i64 k ∧ (2 ≤ k → b1 = false) ∧ (3 ≤ k → b2 = false) ∧ (4 ≤ k → b3 = false) ∧ Below w.heap.size w wr) (fun y _ => 4 - (intOf y).toNat)
  case atStart => exact ⟨0, by omega, rfl, by omega, by omega, by omega, q0⟩
  case round =>
    obtain ⟨k, hk, rfl, h1, h2, h3, q⟩ := hrel
    clear q0
    have hc : k = 0 ∨ k = 1 ∨ k = 2 ∨ k = 3 ∨ k = 4 := by omega
    rcases hc with rfl | rfl | rfl | rfl | rfl
    · go_wp2_with fail
      refine (M0.out wr q).mono ?_
      rintro e w1 ⟨rfl, k1⟩
      have Q1 := Lib.hid (bt q k1)
      clear k1 q
      go_wp2_with fail
      go_roundw
      case rel => exact ⟨1, by omega, rfl, by omega, by omega, by omega, Q1.out⟩
      case measure => simp [intOf]
    · go_wp2_with fail
      refine (M1.out wr q).mono ?_
      rintro e w1 ⟨rfl, k1⟩
      have Q1 := Lib.hid (bt q k1)
      clear k1 q
      cases b1 with
      | true =>
        have e1 := Lib.hid (I1.out (by first | rfl | trivial))
        go_wp2_with fail
        go_ret
        exact ⟨ret_int e1.out.symm, Q1.out⟩
      | false =>
        go_wp2_with fail
        go_roundw
        case rel => exact ⟨2, by omega, rfl, by simp, by omega, by omega, Q1.out⟩
        case measure => simp [intOf]
    · have f1 := h1 (by omega)
      subst f1
      go_wp2_with fail
      refine (M2.out wr q).mono ?_
      rintro e w1 ⟨rfl, k1⟩
      have Q1 := Lib.hid (bt q k1)
      clear k1 q
      cases b2 with
      | true =>
        have e1 := Lib.hid (I2.out (by first | rfl | trivial) (by first | rfl | trivial))
        go_wp2_with fail
        go_ret
        exact ⟨ret_int e1.out.symm, Q1.out⟩
      | false =>
        go_wp2_with fail
        go_roundw
        case rel => exact ⟨3, by omega, rfl, by simp, by simp, by omega, Q1.out⟩
        case measure => simp [intOf]
    · have f1 := h1 (by omega)
      have f2 := h2 (by omega)
      subst f1; subst f2
      go_wp2_with fail
      refine (M3.out wr q).mono ?_
      rintro e w1 ⟨rfl, k1⟩
      have Q1 := Lib.hid (bt q k1)
      clear k1 q
      cases b3 with
      | true =>
        have e1 := Lib.hid (I3.out (by first | rfl | trivial) (by first | rfl | trivial) (by first | rfl | trivial))
        go_wp2_with fail
        go_ret
        exact ⟨ret_int e1.out.symm, Q1.out⟩
      | false =>
        go_wp2_with fail
        go_roundw
        case rel => exact ⟨4, by omega, rfl, by simp, by simp, by simp, Q1.out⟩
        case measure => simp [intOf]
    · have f1 := h1 (by omega)
      have f2 := h2 (by omega)
      have f3 := h3 (by omega)
      subst f1; subst f2; subst f3
      have e1 := Lib.hid (I4.out (by first | rfl | trivial) (by first | rfl | trivial) (by first | rfl | trivial))
      have Q1 := Lib.hid q
      clear q
      go_wp2_with fail
      go_ret
      exact ⟨ret_int e1.out.symm, Q1.out⟩
/-- Some mode? -/
def modeB (s : ByteArray) : Bool := decide (0 < modeI s)
theorem idx_mode (s : ByteArray) : (if idxI s < 0 then 0 else idxI s) = modeI s ∧ decide (0 < idxI s) = modeB s := by
  unfold idxI modeB modeI
  by_cases h1 : hitB sSer s = true
  · simp [h1]
  · by_cases h2 : hitB sTur s = true
    · simp [h1, h2]
    · by_cases h3 : hitB sCre s = true
      · simp [h1, h2, h3]
      · simp [h1, h2, h3]
theorem mode_any (s : ByteArray) (w : World) : Calls Tryz.prog 5 #[.string s] w fun e w' => e = .returned (.tuple #[.int .i64 (modeI s), .bool (modeB s)]) ∧ Below w.heap.size w w' := by
  obtain ⟨W0, hW0⟩ : ∃ W0, w.alloc (.cells #[.string s] 9) = W0 := ⟨_, rfl⟩
  have g0 : W0.heap[w.heap.size]? = some (.cells #[.string s] 9 (0, 0)) := by rw [← hW0]; exact heap_alloc_new w _
  have hB0 : Below w.heap.size w W0 := by rw [← hW0]; exact (br w).alloc (Nat.le_refl _) _
  have hi := fun V w' (q : Below W0.heap.size W0 w') hV => idx_any s V w.heap.size w' hV (sb g0 w' q)
  have hmo := idx_mode s
  obtain ⟨i, hi0⟩ : ∃ i, idxI s = i := ⟨_, rfl⟩
  obtain ⟨m, hm0⟩ : ∃ m, modeI s = m := ⟨_, rfl⟩
  obtain ⟨b, hb0⟩ : ∃ b, modeB s = b := ⟨_, rfl⟩
  rw [hi0] at hi hmo
  rw [hm0, hb0] at hmo
  rw [hm0, hb0]
  have HW0 := Lib.hid hW0; have HB0 := Lib.hid hB0; have Hi := Lib.hid hi; have Hmo := Lib.hid hmo
  have q0 := br W0
  clear hW0 g0 hB0 hi hmo hi0 hm0 hb0
  go_enter Tryz.func5, Tryz.ntmps5
  go_wp2_with fail
  rw [HW0.out]
  refine (ways_any W0).mono ?_
  rintro e w1 ⟨rfl, hw, k1⟩
  have q1 := bt q0 k1
  have Hi1 := Lib.hid (Hi.out _ w1 q1 hw)
  clear hw k1
  go_wp2_with fail
  refine Hi1.out.mono ?_
  rintro e w2 ⟨rfl, k2⟩
  have Q2 := Lib.hid (HB0.out.trans ((bt q1 k2).mono HB0.out.size))
  clear k2
  by_cases hin : i < 0
  · have em : m = 0 := by have := Hmo.out.1; rw [if_pos hin] at this; exact this.symm
    have eb : decide (0 < i) = b := Hmo.out.2
    have Em := Lib.hid em; have Eb := Lib.hid eb
    clear em eb
    go_wp2_with fail
    go_ret2
    exact ⟨by rw [Em.out, ← Eb.out]; simp, Q2.out⟩
  have em : m = i := by have := Hmo.out.1; rw [if_neg hin] at this; exact this.symm
  have eb : decide (0 < i) = b := Hmo.out.2
  have Em := Lib.hid em; have Eb := Lib.hid eb
  clear em eb
  go_wp2_with fail
  go_ret2
  exact ⟨by rw [Em.out, ← Eb.out]; simp, Q2.out⟩
end Go.Proofs.YtfacfmjjhmaojaaGreat
