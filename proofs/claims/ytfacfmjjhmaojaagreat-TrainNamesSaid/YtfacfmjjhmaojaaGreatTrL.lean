/- The walk of the law TrainNames. -/
import Derived.Test.YtfacfmjjhmaojaaGreatTrN
import Derived.Test.YtfacfmjjhmaojaaGreatOpn
import Derived.ChangeMaps5
set_option linter.unusedSimpArgs false
set_option linter.unusedVariables false
namespace Go.Proofs.YtfacfmjjhmaojaaGreat
open Go.RowKit

theorem alive25 (w : World) : Calls Tryz.prog 7 #[] w fun e w' => e = .returned (.bool true) ∧ Below w.heap.size w w' := by
  go_enter Tryz.func7, Tryz.ntmps7
  go_wp2_with fail
  refine (name_any 2 w).mono ?_
  rintro e w1 ⟨rfl, k1⟩
  have K1 := Lib.hid k1
  clear k1
  rw [show nmS 2 = ⟨#[116, 117, 114, 110, 115]⟩ from rfl]
  go_wp2_with fail
  go_ret
  exact ⟨by simp, K1.out⟩
/-- The name leads back. -/
theorem mode_name (m : Int) : modeI (nmS m) = (if 1 ≤ m ∧ m ≤ 3 then m else 0) ∧ modeB (nmS m) = decide (1 ≤ m ∧ m ≤ 3) ∧ ((nmS m).toList.isEmpty = !decide (1 ≤ m ∧ m ≤ 3)) := by
  by_cases h1 : m = 1
  · subst h1; exact ⟨by kernel_rfl, by kernel_rfl, by kernel_rfl⟩
  · by_cases h2 : m = 2
    · subst h2; exact ⟨by kernel_rfl, by kernel_rfl, by kernel_rfl⟩
    · by_cases h3 : m = 3
      · subst h3; exact ⟨by kernel_rfl, by kernel_rfl, by kernel_rfl⟩
      · have h : ¬ (1 ≤ m ∧ m ≤ 3) := by omega
        have e : nmS m = ⟨#[]⟩ := by unfold nmS; rw [if_neg h1, if_neg h2, if_neg h3]
        rw [e, if_neg h, decide_eq_false h]
        exact ⟨by kernel_rfl, by kernel_rfl, by kernel_rfl⟩
/-- The last of the first k modes that has the name. -/
def wantK (s : ByteArray) (k : Nat) : Int := if 3 ≤ k ∧ hitB sCre s = true then 3 else if 2 ≤ k ∧ hitB sTur s = true then 2 else if 1 ≤ k ∧ hitB sSer s = true then 1 else 0
theorem hit_uniq (s : ByteArray) : (hitB sSer s = true → hitB sTur s = false ∧ hitB sCre s = false) ∧ (hitB sTur s = true → hitB sCre s = false) := by
  unfold hitB sSer sTur sCre
  rw [tl_ser, tl_tur, tl_cre]
  refine ⟨fun h => ?_, fun h => ?_⟩
  · have h' := eq_of_beq h
    rw [← h']
    exact ⟨rfl, rfl⟩
  · have h' := eq_of_beq h
    rw [← h']
    rfl
theorem want_mode (s : ByteArray) : wantK s 3 = modeI s := by
  obtain ⟨h1, h2⟩ := hit_uniq s
  unfold wantK modeI
  by_cases a : hitB sSer s = true
  · simp [a, (h1 a).1, (h1 a).2]
  · by_cases b : hitB sTur s = true
    · simp [a, b, h2 b]
    · simp [a, b]
theorem wantK_succ (s : ByteArray) (k : Nat) (hk : k < 3) : wantK s (k + 1) = if hitB (nmS (k + 1 : Nat)) s = true then ((k + 1 : Nat) : Int) else wantK s k := by
  have hc : k = 0 ∨ k = 1 ∨ k = 2 := by omega
  rcases hc with rfl | rfl | rfl
  · rw [show nmS (0 + 1 : Nat) = sSer from rfl]; unfold wantK; by_cases a : hitB sSer s = true <;> simp [a]
  · rw [show nmS (1 + 1 : Nat) = sTur from rfl]; unfold wantK; by_cases a : hitB sTur s = true <;> simp [a]
  · rw [show nmS (2 + 1 : Nat) = sCre from rfl]; unfold wantK; by_cases a : hitB sCre s = true <;> simp [a]
set_option maxRecDepth 100000 in
set_option maxHeartbeats 1000000 in
theorem TrainNames_walk {H : Type} {enc : TypeId × Value → H} {base : Nat} {v0 v1 : Value} {d0 d1 : DataW H} {p0 p1 : List MemPlace} (W : World)
    (o0 : Value.okWide Tryz.prog W .any base 3 v0) (h0 : DataW.Trod enc Tryz.prog W 0 (fun _ => true) true 3 v0 d0 p0) (z0 : Light Tryz.prog 3 d0)
    (o1 : Value.okWide Tryz.prog W .any base 9 v1) (h1 : DataW.Trod enc Tryz.prog W 0 (fun _ => true) true 9 v1 d1 p1) (z1 : Light Tryz.prog 9 d1) :
    Calls Tryz.prog 3 #[v0, v1] W fun e w' => e = .returned (.bool true) ∧ Below W.heap.size W w' := by
  obtain ⟨m, rfl, rfl, rfl, wm⟩ := Go.ChangeShapes.open_int Tryz.underlying3 o0 h0
  obtain ⟨s, rfl, _⟩ := Go.ChangeMaps.open_string Tryz.underlying9 o1 h1
  clear h0 h1 o0 o1 z0 z1 wm
  have hmn := mode_name m
  have hma := mode_any (nmS m)
  obtain ⟨v, hv⟩ : ∃ v, decide (1 ≤ m ∧ m ≤ 3) = v := ⟨_, rfl⟩
  obtain ⟨mi, hmi⟩ : ∃ x, modeI (nmS m) = x := ⟨_, rfl⟩
  rw [hv] at hmn
  rw [hmi] at hmn hma
  rw [hmn.2.1] at hma
  have hm1 : (v = true → mi = m) ∧ (v = false → mi = 0) := by
    constructor
    · intro h; rw [h] at hv; rw [hmn.1, if_pos (of_decide_eq_true hv)]
    · intro h; rw [h] at hv; rw [hmn.1, if_neg (of_decide_eq_false hv)]
  have hem := hmn.2.2
  have hn0 := name_any m
  have hr0 := rname_any m
  obtain ⟨t, ht⟩ : ∃ t, nmS m = t := ⟨_, rfl⟩
  rw [ht] at hma hem hn0 hr0
  have ms := mode_any s
  obtain ⟨n, hn⟩ : ∃ n, modeI s = n := ⟨_, rfl⟩
  have hmb : modeB s = decide (0 < n) := by unfold modeB; rw [hn]
  rw [hmb, hn] at ms
  have hw3 := want_mode s
  rw [hn] at hw3
  have Hma := Lib.hid hma; have Hn0 := Lib.hid hn0; have Hr0 := Lib.hid hr0; have Ms := Lib.hid ms; have Hw3 := Lib.hid hw3; have Hm1 := Lib.hid hm1
  clear hv hmi hmn hma hn0 hr0 ht ms hn hmb hw3 hm1
  cases v with
  | true =>
    obtain rfl := Hm1.out.1 rfl
    go_enter Tryz.func3, Tryz.ntmps3
    go_wp2_with fail
    refine (Hn0.out W).mono ?_
    rintro e w1 ⟨rfl, k1⟩
    have q1 := k1
    clear k1
    go_wp2_with fail
    refine (Hma.out w1).mono ?_
    rintro e w2 ⟨rfl, k2⟩
    have q2 := bt q1 k2
    clear k2
    go_wp2_with fail
    refine (Hr0.out w2).mono ?_
    rintro e w3 ⟨rfl, k3⟩
    have q3 := bt q2 k3
    clear k3
    go_wp2_with fail
    refine (Ms.out w3).mono ?_
    rintro e w4 ⟨rfl, k4⟩
    have Q4 := Lib.hid (bt q3 k4)
    clear k4 q1 q2 q3
    go_wp2_with fail
    go_loopw [10, 11] (fun x y wr => ∃ k : Nat, k ≤ 3 ∧ y = .int .i64 ((k + 1 : Nat) : Int) ∧ x = .int .i64 (wantK s k) ∧ Below W.heap.size W wr) (fun _ y _ => 5 - (intOf y).toNat)
    case atStart => exact ⟨0, by omega, rfl, by simp [wantK], Q4.out⟩
    case round =>
      obtain ⟨k, hk, rfl, rfl, q⟩ := hrel
      by_cases hlt : k < 3
      · have hki : ((k + 1 : Nat) : Int) ≤ 3 := by omega
        have hw1 : IntKind.i64.wrap (((k + 1 : Nat) : Int) + 1) = ((k + 1 + 1 : Nat) : Int) := by rw [IntWalk.i64_in _ (by omega)]; push_cast; rfl
        have hsu := wantK_succ s k hlt
        have hr := rname_any ((k + 1 : Nat) : Int)
        obtain ⟨z, hz⟩ : ∃ z, wantK s k = z := ⟨_, rfl⟩
        rw [hz] at hsu ⊢
        obtain ⟨y, hy⟩ : ∃ y : Nat, k + 1 = y := ⟨_, rfl⟩
        rw [hy] at hsu hr hki hw1 ⊢
        obtain ⟨t', ht'⟩ : ∃ t', nmS (y : Int) = t' := ⟨_, rfl⟩
        rw [ht'] at hsu hr
        have Hr := Lib.hid hr; have Hq := Lib.hid q; have Hsu := Lib.hid hsu; have Hy := Lib.hid hy
        clear hr q hsu hz hy ht'
        by_cases heq : t'.toList = s.toList
        · have hh : Hid (hitB t' s = true) := Lib.hid (by simp [hitB, heq])
          go_wp2_with fail
          refine (Hr.out wr).mono ?_
          rintro e w5 ⟨rfl, k5⟩
          have Q5 := Lib.hid (bt Hq.out k5)
          clear k5
          go_wp2_with fail
          go_roundw
          case rel => exact ⟨y, by have := Hy.out; omega, by push_cast; rfl, by rw [← Hy.out, Hy.out, Hsu.out, if_pos hh.out], Q5.out⟩
          case measure => have := Hy.out; simp [intOf]; omega
        · have hf : (t'.toList == s.toList) = false := by simpa using heq
          have hh : Hid (¬ hitB t' s = true) := Lib.hid (by simp [hitB, hf])
          go_wp2_with fail
          refine (Hr.out wr).mono ?_
          rintro e w5 ⟨rfl, k5⟩
          have Q5 := Lib.hid (bt Hq.out k5)
          clear k5
          go_wp2_with fail
          go_roundw
          case rel => exact ⟨y, by have := Hy.out; omega, by push_cast; rfl, by rw [Hsu.out, if_neg hh.out], Q5.out⟩
          case measure => have := Hy.out; simp [intOf]; omega
      · obtain rfl : k = 3 := by omega
        rw [Hw3.out]
        have Hq := Lib.hid q
        clear q
        go_wp2_with fail
        refine (alive25 wr).mono ?_
        rintro e w5 ⟨rfl, k5⟩
        have Q5 := Lib.hid (bt Hq.out k5)
        clear k5
        go_wp2_with fail
        go_ret
        exact ⟨by simp, Q5.out⟩
  | false =>
    obtain rfl := Hm1.out.2 rfl
    go_enter Tryz.func3, Tryz.ntmps3
    go_wp2_with fail
    refine (Hn0.out W).mono ?_
    rintro e w1 ⟨rfl, k1⟩
    have q1 := k1
    clear k1
    go_wp2_with fail
    refine (Hma.out w1).mono ?_
    rintro e w2 ⟨rfl, k2⟩
    have q2 := bt q1 k2
    clear k2
    go_wp2_with fail
    refine (Hr0.out w2).mono ?_
    rintro e w3 ⟨rfl, k3⟩
    have q3 := bt q2 k3
    clear k3
    go_wp2_with fail
    refine (Ms.out w3).mono ?_
    rintro e w4 ⟨rfl, k4⟩
    have Q4 := Lib.hid (bt q3 k4)
    clear k4 q1 q2 q3
    go_wp2_with fail
    go_loopw [10, 11] (fun x y wr => ∃ k : Nat, k ≤ 3 ∧ y = .int .i64 ((k + 1 : Nat) : Int) ∧ x = .int .i64 (wantK s k) ∧ Below W.heap.size W wr) (fun _ y _ => 5 - (intOf y).toNat)
    case atStart => exact ⟨0, by omega, rfl, by simp [wantK], Q4.out⟩
    case round =>
      obtain ⟨k, hk, rfl, rfl, q⟩ := hrel
      by_cases hlt : k < 3
      · have hki : ((k + 1 : Nat) : Int) ≤ 3 := by omega
        have hw1 : IntKind.i64.wrap (((k + 1 : Nat) : Int) + 1) = ((k + 1 + 1 : Nat) : Int) := by rw [IntWalk.i64_in _ (by omega)]; push_cast; rfl
        have hsu := wantK_succ s k hlt
        have hr := rname_any ((k + 1 : Nat) : Int)
        obtain ⟨z, hz⟩ : ∃ z, wantK s k = z := ⟨_, rfl⟩
        rw [hz] at hsu ⊢
        obtain ⟨y, hy⟩ : ∃ y : Nat, k + 1 = y := ⟨_, rfl⟩
        rw [hy] at hsu hr hki hw1 ⊢
        obtain ⟨t', ht'⟩ : ∃ t', nmS (y : Int) = t' := ⟨_, rfl⟩
        rw [ht'] at hsu hr
        have Hr := Lib.hid hr; have Hq := Lib.hid q; have Hsu := Lib.hid hsu; have Hy := Lib.hid hy
        clear hr q hsu hz hy ht'
        by_cases heq : t'.toList = s.toList
        · have hh : Hid (hitB t' s = true) := Lib.hid (by simp [hitB, heq])
          go_wp2_with fail
          refine (Hr.out wr).mono ?_
          rintro e w5 ⟨rfl, k5⟩
          have Q5 := Lib.hid (bt Hq.out k5)
          clear k5
          go_wp2_with fail
          go_roundw
          case rel => exact ⟨y, by have := Hy.out; omega, by push_cast; rfl, by rw [← Hy.out, Hy.out, Hsu.out, if_pos hh.out], Q5.out⟩
          case measure => have := Hy.out; simp [intOf]; omega
        · have hf : (t'.toList == s.toList) = false := by simpa using heq
          have hh : Hid (¬ hitB t' s = true) := Lib.hid (by simp [hitB, hf])
          go_wp2_with fail
          refine (Hr.out wr).mono ?_
          rintro e w5 ⟨rfl, k5⟩
          have Q5 := Lib.hid (bt Hq.out k5)
          clear k5
          go_wp2_with fail
          go_roundw
          case rel => exact ⟨y, by have := Hy.out; omega, by push_cast; rfl, by rw [Hsu.out, if_neg hh.out], Q5.out⟩
          case measure => have := Hy.out; simp [intOf]; omega
      · obtain rfl : k = 3 := by omega
        rw [Hw3.out]
        have Hq := Lib.hid q
        clear q
        go_wp2_with fail
        refine (alive25 wr).mono ?_
        rintro e w5 ⟨rfl, k5⟩
        have Q5 := Lib.hid (bt Hq.out k5)
        clear k5
        go_wp2_with fail
        go_ret
        exact ⟨by simp, Q5.out⟩
end Go.Proofs.YtfacfmjjhmaojaaGreat
