/- slices.Reverse at ranges; bucket.Buckets and Groups. -/
import Derived.Test.YtaccfnffmbndhaaEven
set_option linter.unusedSimpArgs false
set_option linter.unusedVariables false
namespace Go.Proofs.Ytaccfnffmbndhaa
open Go.RowKit

theorem rgAt_eq (l : List Rg) (j : Nat) (h : j < l.length) : rgAt l j = l[j] := by simp [rgAt, List.getD, h]
theorem rgVals_get {l : List Rg} {j : Nat} (h : j < l.length) : (rgVals l)[j * 2]? = some (.int .i64 ((rgAt l j).1 : Int)) ∧ (rgVals l)[j * 2 + 1]? = some (.int .i64 ((rgAt l j).2 : Int)) := rgVals_at (by rw [rgAt_eq l j h]; simp [h])
theorem rgVals_set : ∀ (l : List Rg) (j : Nat) (r : Rg), ((rgVals l).set (j * 2) (.int .i64 (r.1 : Int))).set (j * 2 + 1) (.int .i64 (r.2 : Int)) = rgVals (l.set j r)
  | [], _, _ => rfl
  | x :: l, 0, r => rfl
  | x :: l, j + 1, r => by
    have ih := rgVals_set l j r
    have e : ∀ y (m : List Rg), rgVals (y :: m) = .int .i64 (y.1 : Int) :: .int .i64 (y.2 : Int) :: rgVals m := fun y m => by simp [rgVals]
    rw [e, List.set_cons_succ, e, ← ih, show (j + 1) * 2 = j * 2 + 1 + 1 by omega, show j * 2 + 1 + 1 + 1 = (j * 2 + 1) + 1 + 1 by omega]
    simp only [List.set_cons_succ]
theorem rg_put {w : World} {base n g c : Nat} {l : List Rg} {e : TypeId} (h : w.ownsRow base e 2 (.slice (some ⟨g, 0, none⟩) n c) n (rgVals l)) (j : Nat) (r : Rg) :
    ((w.setCell ⟨g, j * 2, none⟩ (.int .i64 (r.1 : Int))).setCell ⟨g, j * 2 + 1, none⟩ (.int .i64 (r.2 : Int))).ownsRow base e 2 (.slice (some ⟨g, 0, none⟩) n c) n (rgVals (l.set j r)) := by
  have := ((h.stored (j * 2) (.int .i64 (r.1 : Int))).1.stored (j * 2 + 1) (.int .i64 (r.2 : Int))).1
  rwa [rgVals_set] at this
theorem rg_cell {w : World} {base n g c : Nat} {l : List Rg} {e : TypeId} (h : w.ownsRow base e 2 (.slice (some ⟨g, 0, none⟩) n c) n (rgVals l)) {j : Nat} (hj : j < n) :
    w.cell? ⟨g, j * 2, none⟩ = some (.int .i64 ((rgAt l j).1 : Int)) ∧ w.cell? ⟨g, j * 2 + 1, none⟩ = some (.int .i64 ((rgAt l j).2 : Int)) := by
  have hl := h.1
  rw [rgVals_len] at hl
  have := rgVals_get (l := l) (j := j) (by omega)
  exact ⟨by rw [h.cellAt _ (by omega)]; exact this.1, by rw [h.cellAt _ (by omega)]; exact this.2⟩
/-- The first and the last k have changed places. -/
def revG (l : List Rg) (k : Nat) : List Rg := (List.range l.length).map fun t => if t < k ∨ l.length - 1 - t < k then rgAt l (l.length - 1 - t) else rgAt l t
theorem revG_len (l : List Rg) (k : Nat) : (revG l k).length = l.length := by simp [revG]
theorem revG_at {l : List Rg} {k t : Nat} (h : t < l.length) : rgAt (revG l k) t = if t < k ∨ l.length - 1 - t < k then rgAt l (l.length - 1 - t) else rgAt l t := by
  rw [rgAt_eq _ _ (by rw [revG_len]; exact h)]; simp [revG]
theorem rg_ext {a b : List Rg} (h : a.length = b.length) (hn : ∀ k, k < a.length → rgAt a k = rgAt b k) : a = b := List.ext_getElem h fun k h1 h2 => by
  have := hn k h1; rwa [rgAt_eq _ _ h1, rgAt_eq _ _ h2] at this
theorem revG_zero (l : List Rg) : revG l 0 = l := rg_ext (revG_len l 0) fun k hk => by
  rw [revG_len] at hk; rw [revG_at hk, if_neg (by omega)]
theorem rgAt_set {l : List Rg} {i j : Nat} {r : Rg} (hi : i < l.length) : rgAt (l.set j r) i = if j = i then r else rgAt l i := by
  rw [rgAt_eq _ _ (by simpa using hi), List.getElem_set, rgAt_eq _ _ hi]
theorem revG_step {l : List Rg} {k : Nat} (h : 2 * k + 1 < l.length) : ((revG l k).set k (rgAt (revG l k) (l.length - 1 - k))).set (l.length - 1 - k) (rgAt (revG l k) k) = revG l (k + 1) := by
  refine rg_ext (by simp [revG_len]) fun t ht => ?_
  have ht' : t < l.length := by simpa [revG_len] using ht
  rw [rgAt_set (by simpa [revG_len] using ht'), rgAt_set (by rw [revG_len]; exact ht'), revG_at ht', revG_at (by omega), revG_at (by omega), revG_at ht']
  by_cases h1 : l.length - 1 - k = t
  · subst h1
    rw [if_pos rfl, if_neg (by omega), if_pos (by omega), show l.length - 1 - (l.length - 1 - k) = k by omega]
  · rw [if_neg h1]
    by_cases h2 : k = t
    · subst h2
      rw [if_pos rfl, if_neg (by omega), if_pos (by omega)]
    · rw [if_neg h2]
      by_cases h3 : t < k ∨ l.length - 1 - t < k
      · rw [if_pos h3, if_pos (by omega)]
      · rw [if_neg h3, if_neg (by omega)]
theorem revG_all {l : List Rg} {k : Nat} (h : l.length ≤ 2 * k + 1) : revG l k = l.reverse := by
  refine rg_ext (by simp [revG_len]) fun t ht => ?_
  have ht' : t < l.length := by simpa [revG_len] using ht
  rw [revG_at ht', rgAt_eq l.reverse t (by simpa using ht'), List.getElem_reverse, ← rgAt_eq l _ (by omega)]
  by_cases h1 : t < k ∨ l.length - 1 - t < k
  · rw [if_pos h1]
  · rw [if_neg h1, show l.length - 1 - t = t by omega]

set_option maxRecDepth 100000 in
theorem revr_any (A : Option Addr) (l : List Rg) (n c base : Nat) (w : World) (ho : w.ownsRow base 54 2 (.slice A n c) n (rgVals l)) (hn : l.length = n) (hl : n ≤ 1048576) :
    Calls Try.prog 31 #[.slice A n c] w fun e w' => e = .returned (.tuple #[]) ∧ w'.ownsRow base 54 2 (.slice A n c) n (rgVals l.reverse) ∧ Keep (fun j => (Value.slice A n c).ownBlock = some j) w w' := by
  have h0 : w.ownsRow base 54 2 (.slice A n c) n (rgVals (revG l 0)) := by rw [revG_zero]; exact ho
  have hst := fun k (h : 2 * k + 1 < n) => revG_step (l := l) (k := k) (by omega)
  have hall := fun k (h : n ≤ 2 * k + 1) => revG_all (l := l) (k := k) (by omega)
  rw [hn] at hst
  have H0 := Lib.hid h0; have Hst := Lib.hid hst; have Hall := Lib.hid hall; have Hn := Lib.hid hn
  clear ho h0 hst hall hn
  go_enter Try.func31, Try.ntmps31
  go_wp2_with fail
  go_loopw [2, 3] (fun i j wr => ∃ k : Nat, 2 * k ≤ n + 1 ∧ i = .int .i64 k ∧ j = .int .i64 ((n : Int) - 1 - k) ∧ wr.ownsRow base 54 2 (.slice A n c) n (rgVals (revG l k)) ∧ Keep (fun j => (Value.slice A n c).ownBlock = some j) w wr) (fun i _ _ => n - (intOf i).toNat)
  case atStart => exact ⟨0, by omega, rfl, by go_num, H0.out, Keep.refl _ _⟩
  case round =>
    obtain ⟨k, hk, rfl, rfl, hr, hK⟩ := hrel
    by_cases hlt : 2 * k + 1 < n
    · obtain ⟨g, rfl⟩ : ∃ g, A = some ⟨g, 0, none⟩ := by
        obtain ⟨g, e, hv, _⟩ := hr.form (by omega)
        simp only [Value.slice.injEq] at hv
        exact ⟨g, hv.1⟩
      have p1 := rg_cell hr (show k < n by omega)
      have p2 := rg_cell hr (show n - 1 - k < n by omega)
      have f1 := fun j => hr.frozenAt j
      have hkl : (k : Int) < (n : Int) - 1 - k := by omega
      have hj : (n : Int) - 1 - k = ((n - 1 - k : Nat) : Int) := by omega
      have hjn : n - 1 - k < n := by omega
      have hkn : k < n := by omega
      have hjk : n - 1 - k ≠ k := by omega
      have hjk2 : ¬ ((n - 1 - k) * 2 = k * 2) ∧ ¬ ((n - 1 - k) * 2 = k * 2 + 1) ∧ ¬ ((n - 1 - k) * 2 + 1 = k * 2) ∧ ¬ ((n - 1 - k) * 2 + 1 = k * 2 + 1) := by omega
      obtain ⟨r1, hr1⟩ : ∃ r, rgAt (revG l k) k = r := ⟨_, rfl⟩
      obtain ⟨r2, hr2⟩ : ∃ r, rgAt (revG l k) (n - 1 - k) = r := ⟨_, rfl⟩
      obtain ⟨j, hjj⟩ : ∃ j, n - 1 - k = j := ⟨_, rfl⟩
      have hs := Hst.out k hlt
      rw [hr1, hr2] at hs
      rw [hr1] at p1
      rw [hr2] at p2
      rw [hjj] at p2 hj hjn hjk hjk2 hs
      rw [hj] at hkl ⊢
      have Hr := Lib.hid hr; have HK := Lib.hid hK; have Hj := Lib.hid hj; have Hs := Lib.hid hs
      clear hr hK hj hjj hs hr1 hr2
      go_wp2_with fail
      refine XA.g 13 (fun w' : World => (w'.cell? ⟨g, k * 2, none⟩ = some (.int .i64 (r1.1 : Int)) ∧ w'.cell? ⟨g, k * 2 + 1, none⟩ = some (.int .i64 (r1.2 : Int))) ∧ (w'.cell? ⟨g, j * 2, none⟩ = some (.int .i64 (r2.1 : Int)) ∧ w'.cell? ⟨g, j * 2 + 1, none⟩ = some (.int .i64 (r2.2 : Int)))) ?_
      refine XA.t0 ?_ [0, 1, 2, 3, 4, 5, 6, 8, 9, 10] ⟨p1, p2⟩ ?_
      refine XA.t ?_ [7, 11] ⟨p1, p2⟩ ?_
      refine XA.t0 ?_ [12] ⟨p1, p2⟩ ?_
      refine XA.e ?_
      simp only [List.drop_succ_cons, List.drop_zero]
      go_wp2_with fail
      go_roundw
      case rel => exact ⟨k + 1, by omega, by go_num, by have := Hj.out; go_num, by rw [← Hs.out]; exact rg_put (rg_put Hr.out k r2) j r1, Keep.setCell (S := fun j => (Value.slice (some ⟨g, 0, none⟩) n c).ownBlock = some j) (Keep.setCell (S := fun j => (Value.slice (some ⟨g, 0, none⟩) n c).ownBlock = some j) (Keep.setCell (S := fun j => (Value.slice (some ⟨g, 0, none⟩) n c).ownBlock = some j) (Keep.setCell (S := fun j => (Value.slice (some ⟨g, 0, none⟩) n c).ownBlock = some j) HK.out.drew ⟨g, k * 2, none⟩ (.inr rfl) _) ⟨g, k * 2 + 1, none⟩ (.inr rfl) _) ⟨g, j * 2, none⟩ (.inr rfl) _) ⟨g, j * 2 + 1, none⟩ (.inr rfl) _⟩
      case measure => simp [intOf]; omega
    · have hkl : ¬ ((k : Int) < (n : Int) - 1 - k) := by omega
      have hr2 := Hall.out k (by omega)
      rw [hr2] at hr
      have Hr := Lib.hid hr; have HK := Lib.hid hK
      clear hr hK hr2
      go_wp2_with fail
      go_end0
      exact ⟨rfl, Hr.out, HK.out⟩

theorem buckets_any (n s : Nat) (w : World) (hn : n ≤ 1048576) (hs : 1 ≤ s) (hs2 : s ≤ 1048576) :
    Calls Try.prog 19 #[.int .i64 n, .int .i64 s] w fun e w' => ∃ v, e = .returned v ∧ w'.ownsRow w.heap.size 54 2 v (bukR n s).length (rgVals (bukR n s)) ∧ Below w.heap.size w w' := by
  have hb := blocks_any n s w hn hs hs2
  have hl := cntQ_le n s
  rw [← blkR_vals, ← blkR_len] at hb
  have hbl := bukR_len n s
  rw [blkR_len] at hb
  rw [hbl]
  have hrv := fun (A : Option Addr) c base w' (ho : w'.ownsRow base 54 2 (.slice A (cntQ n s) c) (cntQ n s) (rgVals (blkR n s))) => revr_any A (blkR n s) (cntQ n s) c base w' ho (blkR_len n s) (by omega)
  have Hb := Lib.hid hb; have Hrv := Lib.hid hrv
  clear hb hrv hbl hl
  go_enter Try.func19, Try.ntmps19
  go_wp2_with fail
  refine Hb.out.mono ?_
  rintro e w1 ⟨v, rfl, o1, k1⟩
  obtain ⟨A, c, rfl, _⟩ := own_form o1
  have O1 := Lib.hid o1
  clear o1
  go_wp2_with fail
  refine (Hrv.out A c _ w1 O1.out).mono ?_
  rintro e w2 ⟨rfl, o2, k2⟩
  have hB := k1.trans (k2.toBelow k1.size (fun j hj => (O1.out.lt j hj).1))
  have O2 := Lib.hid o2
  clear o2 k1 k2 O1
  go_wp2_with fail
  go_ret
  exact ⟨_, rfl, O2.out, hB⟩
theorem groups_any (n s : Nat) (w : World) (hn : n ≤ 1048576) (hs : 1 ≤ s) (hs2 : s ≤ 1048576) :
    Calls Try.prog 20 #[.int .i64 n, .int .i64 s] w fun e w' => ∃ v, e = .returned v ∧ w'.ownsRow w.heap.size 54 2 v (blkR n s).length (rgVals (blkR n s)) ∧ Below w.heap.size w w' := by
  have hb := blocks_any n s w hn hs hs2
  rw [← blkR_vals, ← blkR_len] at hb
  have Hb := Lib.hid hb
  clear hb
  go_enter Try.func20, Try.ntmps20
  go_wp2_with fail
  refine Hb.out.mono ?_
  rintro e w1 ⟨v, rfl, o1, k1⟩
  have O1 := Lib.hid o1
  clear o1
  go_wp2_with fail
  go_ret
  exact ⟨_, rfl, O1.out, k1⟩
end Go.Proofs.Ytaccfnffmbndhaa
