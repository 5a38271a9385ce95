/- The reference's Even, shifted, Buckets, Segments, Chunks. -/
import Derived.Test.YtaccfnffmbndhaaRef15
set_option linter.unusedSimpArgs false
set_option linter.unusedVariables false
namespace Go.Proofs.Ytaccfnffmbndhaa
open Go.RowKit

/-- How many of the first m numbers have fallen to each place. -/
def szs (k m : Nat) : List Int := (List.range k).map fun i => (szE k m i : Int)
theorem szs_len (k m : Nat) : (szs k m).length = k := by simp [szs]
theorem szs_nth {k m i : Nat} (h : i < k) : nth (szs k m) i = (szE k m i : Int) := by rw [nth_eq _ _ (by rw [szs_len]; exact h)]; simp [szs]
theorem szs_zero (k : Nat) : List.replicate k (0 : Int) = szs k 0 := by
  refine List.ext_getElem (by simp [szs_len]) fun i h1 h2 => ?_
  simp [szs, szE_zero]
theorem szs_succ {k m : Nat} (hk : 0 < k) : (szs k m).set (m % k) ((szE k m (m % k) : Int) + 1) = szs k (m + 1) := by
  refine List.ext_getElem (by simp [szs_len]) fun i h1 h2 => ?_
  have hi : i < k := by simpa [szs_len] using h1
  rw [List.getElem_set]
  have h3 := szE_succ (m := m) hi
  by_cases h : m % k = i
  · subst h
    rw [if_pos rfl]
    simp only [szs, List.getElem_map, List.getElem_range]
    rw [h3, if_pos rfl]
    push_cast; rfl
  · rw [if_neg h]
    simp only [szs, List.getElem_map, List.getElem_range]
    rw [h3, if_neg (fun e => h e.symm), Nat.add_zero]
theorem szE_le (k m i : Nat) : szE k m i ≤ m + 1 := by
  unfold szE
  have := Nat.div_le_self m k
  split <;> omega
def evK (n k m : Nat) : List Rg := (List.range m).map fun i => (bdN n k i, bdN n k (i + 1))
theorem evK_succ (n k m : Nat) : evK n k (m + 1) = evK n k m ++ [(bdN n k m, bdN n k m + szE k n m)] := by
  rw [← bdN_succ]; exact evenR_succ n k m
set_option maxRecDepth 100000 in
set_option maxHeartbeats 1000000 in
theorem reven_any (n k : Nat) (w : World) (h1 : 1 ≤ k) (h2 : k ≤ 1048576) (h3 : n ≤ 1048576) :
    Calls Try.prog 65 #[.int .i64 n, .int .i64 k] w fun e w' => ∃ v, e = .returned v ∧ w'.ownsRow w.heap.size 60 2 v k (rgVals (evenR n k)) ∧ Below w.heap.size w w' := by
  have hq1 : ¬ ((n : Int) < 0) := by omega
  have hq2 : ¬ ((k : Int) < 1) := by omega
  have hk0 : ¬ (k = 0) := by omega
  obtain ⟨W0, hrun, o0, hB0⟩ := run_mk et_ints w rfl k (by omega) (by unfold maxLen; omega)
  rw [nums_rep, szs_zero] at o0
  have HB0 := Lib.hid hB0; have O0 := Lib.hid o0
  clear hB0 o0
  go_enter Try.func65, Try.ntmps65
  go_wp2_with fail
  clear hrun
  go_loopw [6] (fun y wr => ∃ m : Nat, m ≤ n ∧ y = .int .i64 m ∧ wr.ownsRow w.heap.size 3 1 (.slice (some ⟨w.heap.size, 0, none⟩) k k) k (nums .i64 (szs k m)) ∧ Below w.heap.size w wr) (fun y _ => n - (intOf y).toNat)
  case atStart => exact ⟨0, Nat.zero_le _, rfl, O0.out, HB0.out⟩
  case round =>
    obtain ⟨m, hm, rfl, ho, hb⟩ := hrel
    by_cases hlt : m < n
    · have hmi : (m : Int) < n := by omega
      have hr1 : (m : Int).tmod (k : Int) = ((m % k : Nat) : Int) := rfl
      have hr2 : (m : Int) % (k : Int) = ((m % k : Nat) : Int) := rfl
      have hrk : m % k < k := Nat.mod_lt _ h1
      have hsu := szs_succ (m := m) h1
      have hc := ho.cellAt (m % k) (by omega)
      rw [nums_get _ _ _ (by rw [szs_len]; exact hrk), szs_nth hrk] at hc
      have hsl := szE_le k m (m % k)
      have hf := fun j => ho.frozenAt j
      obtain ⟨r, hr⟩ : ∃ r, m % k = r := ⟨_, rfl⟩
      rw [hr] at hr1 hr2 hrk hsu hc hsl
      have hrkI : (r : Int) < k := by omega
      obtain ⟨s, hs⟩ : ∃ s, szE k m r = s := ⟨_, rfl⟩
      rw [hs] at hsu hc hsl
      have hw1 : IntKind.i64.wrap ((m : Int) + 1) = ((m + 1 : Nat) : Int) := by rw [IntWalk.i64_in _ (by omega)]; push_cast; rfl
      have hst := (ho.stored r (.int .i64 ((s : Int) + 1))).1
      rw [nums_set, hsu] at hst
      have hkp := Keep.setCell (S := fun j => j = w.heap.size) (Keep.refl _ wr) ⟨w.heap.size, r, none⟩ (.inr rfl) (.int .i64 ((s : Int) + 1))
      have Hst := Lib.hid hst; have Hb := Lib.hid (hb.trans (hkp.toBelow hb.size (fun j hj => by omega)))
      clear ho hb hr hs hsu hst hkp
      go_wp2_with fail
      go_roundw
      case rel => exact ⟨m + 1, by omega, by go_num, Hst.out, Hb.out⟩
      case measure => simp [intOf]; omega
    · have hmi : ¬ ((m : Int) < n) := by omega
      obtain rfl : n = m := by omega
      have Ho := Lib.hid ho; have Hb := Lib.hid hb
      clear ho hb
      go_wp2_with fail
      obtain ⟨w2, rfl⟩ : ∃ w2 : World, w2 = wr := ⟨_, rfl⟩
      go_loopw [7, 8, 9] (fun v z y wr => ∃ m : Nat, m ≤ k ∧ y = .int .i64 m ∧ z = .int .i64 (bdN n k m : Nat) ∧ wr.ownsRow w2.heap.size 60 2 v m (rgVals (evK n k m)) ∧ Below w2.heap.size w2 wr) (fun _ _ y _ => k - (intOf y).toNat)
      case atStart => exact ⟨0, Nat.zero_le _, rfl, by simp [bdN], World.ownsRow_nil _ _ _ _, Below.refl _ _⟩
      case round =>
        obtain ⟨m, hm, rfl, rfl, ho2, q⟩ := hrel
        by_cases hlt : m < k
        · have hmi : (m : Int) < k := by omega
          have hw1 : IntKind.i64.wrap ((m : Int) + 1) = ((m + 1 : Nat) : Int) := by rw [IntWalk.i64_in _ (by omega)]; push_cast; rfl
          have hc := Ho.out.cellAt m (by omega)
          rw [nums_get _ _ _ (by rw [szs_len]; exact hlt), szs_nth hlt] at hc
          have hsl := szE_le k n m
          have hbl := bdN_le n k m h1 hm
          have hbl2 := bdN_le n k (m + 1) h1 hlt
          have hsu := evK_succ n k m
          have hbs := bdN_succ n k m
          obtain ⟨s, hs⟩ : ∃ s, szE k n m = s := ⟨_, rfl⟩
          rw [hs] at hc hsl hsu hbs
          have hc1 := cell_below q hc
          obtain ⟨b, hb⟩ : ∃ b, bdN n k m = b := ⟨_, rfl⟩
          rw [hb] at hbl hsu hbs ⊢
          obtain ⟨A, c, rfl, _⟩ := own_form ho2
          have Ho2 := Lib.hid ho2; have Hq := Lib.hid q; have Hsu := Lib.hid hsu; have Hbs := Lib.hid hbs
          have hsz := q.size
          have hlc := lt_of_cell hc1
          have d2 := fun w' (q' : Below wr.heap.size wr w') => cell_below q' hc1
          have Hc := Lib.hid hc
          clear ho2 q hsu hbs hb hs hc
          go_wp2_with (at_builtin; refine wpList_push et_r4s _ rfl (.tmp 36) (.tmp 45) rfl w2.heap.size (.slice A m c) m _ rfl Ho2.out [.int .i64 (b : Nat), .int .i64 ((b : Int) + s)] rfl rfl (nums_cell .i64 [_, _]) (by omega) (by unfold maxLen; omega) hsz ?_)
          intro g6 c6 w6 ho6 hb6 hg6
          have HO6 := Lib.hid ho6; have HB6 := Lib.hid (Hq.out.trans hb6)
          have d6 := cell_below (Hq.out.trans hb6) Hc.out
          clear ho6 hb6 hg6
          go_wp2_with fail
          go_roundw
          case rel => exact ⟨m + 1, by omega, by go_num, by rw [Hbs.out]; push_cast; rfl, by rw [Hsu.out, rgVals_app]; exact HO6.out, HB6.out⟩
          case measure => simp [intOf]; omega
        · have hmi : ¬ ((m : Int) < k) := by omega
          obtain rfl : k = m := by omega
          have Ho2 := Lib.hid (own_base (base' := w.heap.size) ho2 Hb.out.size); have Hq := Lib.hid (Hb.out.trans (q.mono Hb.out.size))
          clear ho2 q
          go_wp2_with fail
          go_ret
          exact ⟨_, rfl, Ho2.out, Hq.out⟩
end Go.Proofs.Ytaccfnffmbndhaa
