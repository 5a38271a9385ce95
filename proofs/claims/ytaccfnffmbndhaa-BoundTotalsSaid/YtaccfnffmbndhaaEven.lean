/- The walks of part.Even and Range.Size. -/
import Derived.Test.YtaccfnffmbndhaaEvenPlain
import Derived.Test.YtaccfnffmbndhaaSamp
import Derived.Test.YtaccfnffmbndhaaRgn
set_option linter.unusedSimpArgs false
set_option linter.unusedVariables false
namespace Go.Proofs.Ytaccfnffmbndhaa
open Go.RowKit

theorem rgsize_any (a b : Nat) (w : World) (ha : a ≤ 1048576) (hb : b ≤ 1048576) :
    Calls Try.prog 36 #[.agg #[.int .i64 a, .int .i64 b]] w fun e w' => e = .returned (.int .i64 ((b - a : Nat) : Int)) ∧ Below w.heap.size w w' := by
  have hB : Below w.heap.size w (w.alloc (.cells #[.int .i64 a, .int .i64 b] 54)) := (br w).alloc (Nat.le_refl _) _
  by_cases h : a ≤ b
  · have h1 : ¬ ((b : Int) - a < 0) := by omega
    have h2 : ((b - a : Nat) : Int) = (b : Int) - a := by omega
    rw [h2]
    clear h2
    go_enter Try.func36, Try.ntmps36
    go_wp2
    go_ret
    exact ⟨ret_int (by first | rfl | omega | (simp; omega)), hB⟩
  · have h1 : (b : Int) - a < 0 := by omega
    have h2 : ((b - a : Nat) : Int) = 0 := by omega
    rw [h2]
    clear h2
    go_enter Try.func36, Try.ntmps36
    go_wp2
    go_ret
    exact ⟨ret_int (by first | rfl | omega | (simp; omega)), hB⟩

set_option maxRecDepth 100000 in
theorem bound_any (i n k bn bk : Nat) (w : World) (hn : w.heap[bn]? = some (.cells #[.int .i64 n] 3 (0, 0))) (hk : w.heap[bk]? = some (.cells #[.int .i64 k] 3 (0, 0))) (h1 : 1 ≤ k) (h2 : k ≤ 1048576) (h3 : n ≤ 1048576) (hi : i ≤ k) :
    Calls Try.prog 50 #[.int .i64 i, .pointer (some ⟨bn, 0, none⟩), .pointer (some ⟨bk, 0, none⟩)] w fun e w' => e = .returned (.int .i64 (bdN n k i : Int)) ∧ Below w.heap.size w w' := by
  have tn := fun w' q => bx1 (sb hn w' q)
  have tk := fun w' q => bx1 (sb hk w' q)
  have q0 := br w
  have hk0 : ¬ (k = 0) := by omega
  have hq1 : (n : Int).tdiv (k : Int) = ((n / k : Nat) : Int) := rfl
  have hq2 : (n : Int) / (k : Int) = ((n / k : Nat) : Int) := rfl
  have hr1 : (n : Int).tmod (k : Int) = ((n % k : Nat) : Int) := rfl
  have hr2 : (n : Int) % (k : Int) = ((n % k : Nat) : Int) := rfl
  have hle := bdN_le n k i (by omega) hi
  have hdef : bdN n k i = i * (n / k) + min i (n % k) := rfl
  have hql : n / k ≤ n := Nat.div_le_self _ _
  obtain ⟨q, hq⟩ : ∃ q, n / k = q := ⟨_, rfl⟩
  obtain ⟨r, hr⟩ : ∃ r, n % k = r := ⟨_, rfl⟩
  obtain ⟨p, hp⟩ : ∃ p, i * q = p := ⟨_, rfl⟩
  have hm : (i : Int) * (q : Int) = (p : Int) := by rw [← hp]; push_cast; rfl
  rw [hq] at hq1 hq2 hdef hql
  rw [hr] at hr1 hr2 hdef
  rw [hp] at hdef
  have hpl : p ≤ 1048576 := by omega
  have hw1 : IntKind.i64.wrap (p : Int) = p := IntWalk.i64_in _ (by omega)
  have hw2 : IntKind.i64.wrap (q : Int) = q := IntWalk.i64_in _ (by omega)
  obtain ⟨d, hd⟩ : ∃ d, bdN n k i = d := ⟨_, rfl⟩
  rw [hd] at hle hdef ⊢
  have Hdef := Lib.hid hdef
  clear hn hk hq hr hp hd hdef hle
  go_enter Try.func50, Try.ntmps50
  go_wp2_with fail
  refine HA.g (fun w' : World => Below w.heap.size w w') ?_
  refine HA.t ?_ [0, 1, 2, 3, 4, 5, 6, 7, 8] q0.drew ?_
  obtain ⟨mn, hmn⟩ : ∃ mn : Nat, min i r = mn := ⟨_, rfl⟩
  have hmin : (if r < i then (r : Int) else (i : Int)) = (mn : Int) := by rw [← hmn]; split <;> omega
  have hw3 : IntKind.i64.wrap ((p : Int) + (mn : Int)) = (p : Int) + mn := IntWalk.i64_in _ (by omega)
  refine HA.t ?_ [9] q0.drew ?_
  refine HA.t ?_ [10, 11] q0.drew ?_
  refine HA.d ?_
  have hB := q0.drew
  have hdd := Lib.hid (show (p : Int) + mn = (d : Int) by have := Hdef.out; omega)
  clear hmn hmin hw1 hw2 hw3 hq1 hq2 hr1 hr2 hm
  go_wp2_with fail
  go_ret
  exact ⟨ret_int hdd.out, hB⟩

set_option maxRecDepth 100000 in
theorem even_any (n k : Nat) (w : World) (h1 : 1 ≤ k) (h2 : k ≤ 1048576) (h3 : n ≤ 1048576) :
    Calls Try.prog 35 #[.int .i64 n, .int .i64 k] w fun e w' => ∃ v, e = .returned v ∧ w'.ownsRow w.heap.size 54 2 v k (rgVals (evenR n k)) ∧ Below w.heap.size w w' := by
  have hq1 : ¬ ((n : Int) < 0) := by omega
  have hq2 : ¬ ((k : Int) < 1) := by omega
  obtain ⟨W0, hW0⟩ : ∃ W0, (w.alloc (.cells #[.int .i64 n] 3)).alloc (.cells #[.int .i64 k] 3) = W0 := ⟨_, rfl⟩
  have hn : W0.heap[w.heap.size]? = some (.cells #[.int .i64 n] 3 (0, 0)) := by
    rw [← hW0, Below.heap_alloc _ _ _ (by simp)]; exact heap_alloc_new w _
  have hk : W0.heap[w.heap.size + 1]? = some (.cells #[.int .i64 k] 3 (0, 0)) := by
    rw [← hW0]; have := heap_alloc_new (w.alloc (.cells #[.int .i64 n] 3)) (.cells #[.int .i64 k] 3); simpa using this
  have hs0 : W0.heap.size = w.heap.size + 1 + 1 := by rw [← hW0]; simp
  have hB0 : Below w.heap.size w W0 := by rw [← hW0]; exact ((br w).alloc (Nat.le_refl _) _).alloc (by simp) _
  have tn := fun w' q => bx1 (sb hn w' q)
  have tk := fun w' q => bx1 (sb hk w' q)
  have hbd := fun i w' (q : Below W0.heap.size W0 w') (hi : i ≤ k) => bound_any i n k w.heap.size (w.heap.size + 1) w' (sb hn w' q) (sb hk w' q) h1 h2 h3 hi
  have hle := fun i (hi : i ≤ k) => bdN_le n k i (by omega) hi
  have HW0 := Lib.hid hW0; have Hbd := Lib.hid hbd; have Hle := Lib.hid hle; have Hs0 := Lib.hid hs0; have HB0 := Lib.hid hB0
  clear hW0 hn hk hbd hle hs0 hB0
  go_enter Try.func35, Try.ntmps35
  have q0 := br W0
  go_wp2_with fail
  rw [HW0.out]
  go_loopw [6, 16] (fun v x wr => ∃ m : Nat, m ≤ k ∧ x = .int .i64 m ∧ wr.ownsRow W0.heap.size 54 2 v m (rgVals ((List.range m).map fun i => (bdN n k i, bdN n k (i + 1)))) ∧ Below W0.heap.size W0 wr) (fun _ x _ => k - (intOf x).toNat)
  case atStart => exact ⟨0, Nat.zero_le _, rfl, World.ownsRow_nil _ _ _ _, q0⟩
  case round =>
    obtain ⟨m, hm, rfl, ho, q⟩ := hrel
    by_cases hlt : m < k
    · have hmi : (m : Int) < k := by omega
      obtain ⟨A, c, rfl, _⟩ := own_form ho
      have Ho := Lib.hid ho
      clear ho
      go_wp2_with fail
      refine (Hbd.out m wr q (by omega)).mono ?_
      rintro e w1 ⟨rfl, k1⟩
      have q1 := bt q k1
      have O1 := Lib.hid (own_below Ho.out k1)
      have hw1 : IntKind.i64.wrap ((m : Int) + 1) = ((m + 1 : Nat) : Int) := by rw [IntWalk.i64_in _ (by omega)]; push_cast; rfl
      clear k1 q
      go_wp2_with fail
      have hb2 := Hbd.out (m + 1) w1 q1 (by omega)
      rw [show ((m + 1 : Nat) : Int) = (m : Int) + 1 from by omega] at hb2
      refine hb2.mono ?_
      rintro e w2 ⟨rfl, k2⟩
      have q2 := bt q1 k2
      have O2 := Lib.hid (own_below O1.out k2)
      have hsz := q2.size
      clear hb2 k2 q1 O1 Ho
      go_wp2_with (at_builtin; refine wpList_push et_rngs _ rfl (.tmp 19) (.tmp 28) rfl W0.heap.size (.slice A m c) m _ rfl O2.out [.int .i64 (bdN n k m : Nat), .int .i64 (bdN n k (m + 1) : Nat)] rfl rfl (nums_cell .i64 [_, _]) (by omega) (by unfold maxLen; omega) hsz ?_)
      intro g6 c6 w6 ho6 hb6 hg6
      have HO6 := Lib.hid ho6
      have q6 := q2.trans hb6
      clear ho6 hb6 hg6 q2
      go_wp2_with fail
      go_roundw
      case rel => exact ⟨m + 1, by omega, by go_num, by rw [evenR_succ, rgVals_app]; exact HO6.out, q6⟩
      case measure => simp [intOf]; omega
    · obtain rfl : k = m := by omega
      have Ho := Lib.hid (own_base (base' := w.heap.size) ho (by have := Hs0.out; omega))
      have hB := HB0.out.trans (q.mono HB0.out.size)
      have HB := Lib.hid hB
      clear ho hB
      go_wp2_with fail
      go_ret
      exact ⟨_, rfl, Ho.out, HB.out⟩
end Go.Proofs.Ytaccfnffmbndhaa
