/- The reference's Same and SameAll at equal messages; its Messages. -/
import Derived.Test.YtpoeppehijhnnaaLinkRef
import Derived.Test.YtpoeppehijhnnaaRef03
namespace Go.Proofs.Ytpoeppehijhnnaa
open Go.RowKit

theorem refSame (t0 t1 t2 t3 t4 : Int) (A1 A2 : Option Addr) (zs : List Int) (c1 c2 : Nat) (w : World) (h1 : Rd w A1 (nums .i64 zs)) (h2 : Rd w A2 (nums .i64 zs)) (hl : zs.length ≤ 17592186043904) :
    Calls Try.prog 29 #[.agg #[.int .i64 t0, .int .i64 t1, .int .i64 t2, .int .i64 t3, .int .i64 t4, .slice A1 zs.length c1], .agg #[.int .i64 t0, .int .i64 t1, .int .i64 t2, .int .i64 t3, .int .i64 t4, .slice A2 zs.length c2]] w fun e w' => e = .returned (.bool true) ∧ Below w.heap.size w w' := by
  have hs := fun w' (k : Below w.heap.size w w') => same_any A1 A2 zs zs c1 c2 w' (h1.below k) (h2.below k) hl hl
  rw [decide_eq_true rfl] at hs
  have Hs := Lib.hid hs; clear hs h1 h2
  go_enter Try.func29, Try.ntmps29
  go_wp2_with fail
  refine (Hs.out _ ?_).mono ?_
  · (focus (repeat' (first | (with_reducible exact Below.refl _ _) | (with_reducible assumption) | (with_reducible refine Below.setCell ?_ ?_ _) | (with_reducible refine Below.alloc ?_ ?_ _) | (with_reducible refine below_drewN ?_ _) | (with_reducible refine Below.drew ?_) | (with_reducible exact Nat.le_refl _) | omega | (simp; done) | (simp; omega))))
  rintro e w' ⟨rfl, n, rfl⟩
  go_wp2_with fail
  go_ret
  refine ⟨rfl, ?_⟩
  (focus (repeat' (first | (with_reducible exact Below.refl _ _) | (with_reducible assumption) | (with_reducible refine Below.setCell ?_ ?_ _) | (with_reducible refine Below.alloc ?_ ?_ _) | (with_reducible refine below_drewN ?_ _) | (with_reducible refine Below.drew ?_) | (with_reducible exact Nat.le_refl _) | omega | (simp; done) | (simp; omega))))

/-- A message of a list that is read. -/
theorem MsgsRd.at_ {w : World} {A : Option Addr} {ms : List Msg} (h : MsgsRd w A ms) (j : Nat) (hj : j < ms.length) :
    ∃ b o A' c', A = some ⟨b, o, none⟩ ∧ Cells6 w b (o + j * 6) (msgAt ms j).tag (.slice A' (msgAt ms j).vals.length c') ∧ Rd w A' (nums .i64 (msgAt ms j).vals) := by
  obtain ⟨rows, h1, h2, h3, h4⟩ := h
  obtain ⟨A', c', e, hr⟩ := h4 j hj
  have hx : ∀ t, t < 6 → (List.flatten rows)[j * 6 + t]? = ((msgAt ms j).tag.cells ++ [Value.slice A' (msgAt ms j).vals.length c'])[t]? := fun t ht => by
    rw [flatten_get h3 j t (by omega) ht, e]
  obtain ⟨b, o, rfl, c0⟩ := h1 (j * 6 + 0) _ (hx 0 (by omega))
  have hc : ∀ t u, t < 6 → ((msgAt ms j).tag.cells ++ [Value.slice A' (msgAt ms j).vals.length c'])[t]? = some u → w.cell? ⟨b, o + j * 6 + t, none⟩ = some u := fun t u ht hu => by
    obtain ⟨b', o', e', c⟩ := h1 (j * 6 + t) u ((hx t ht).trans hu)
    injection e' with e'; injection e' with e1 e2 _
    subst e1; subst e2
    rw [Nat.add_assoc]; exact c
  exact ⟨b, o, A', c', rfl, ⟨hc 0 _ (by omega) rfl, hc 1 _ (by omega) rfl, hc 2 _ (by omega) rfl, hc 3 _ (by omega) rfl, hc 4 _ (by omega) rfl, hc 5 _ (by omega) rfl⟩, hr⟩

theorem MsgsIn.at_ {V w : World} {A : Option Addr} {ms : List Msg} (h : MsgsIn V w A ms) (j : Nat) (hj : j < ms.length) :
    ∃ b o A' c', A = some ⟨b, o, none⟩ ∧ Cells6 w b (o + j * 6) (msgAt ms j).tag (.slice A' (msgAt ms j).vals.length c') ∧ Rd V A' (nums .i64 (msgAt ms j).vals) := by
  obtain ⟨rows, h1, h2, h3, h4⟩ := h
  obtain ⟨A', c', e, hr⟩ := h4 j hj
  have hx : ∀ t, t < 6 → (List.flatten rows)[j * 6 + t]? = ((msgAt ms j).tag.cells ++ [Value.slice A' (msgAt ms j).vals.length c'])[t]? := fun t ht => by
    rw [flatten_get h3 j t (by omega) ht, e]
  obtain ⟨b, o, rfl, c0⟩ := h1 (j * 6 + 0) _ (hx 0 (by omega))
  have hc : ∀ t u, t < 6 → ((msgAt ms j).tag.cells ++ [Value.slice A' (msgAt ms j).vals.length c'])[t]? = some u → w.cell? ⟨b, o + j * 6 + t, none⟩ = some u := fun t u ht hu => by
    obtain ⟨b', o', e', c⟩ := h1 (j * 6 + t) u ((hx t ht).trans hu)
    injection e' with e'; injection e' with e1 e2 _
    subst e1; subst e2
    rw [Nat.add_assoc]; exact c
  exact ⟨b, o, A', c', rfl, ⟨hc 0 _ (by omega) rfl, hc 1 _ (by omega) rfl, hc 2 _ (by omega) rfl, hc 3 _ (by omega) rfl, hc 4 _ (by omega) rfl, hc 5 _ (by omega) rfl⟩, hr⟩

set_option maxHeartbeats 800000 in
theorem refSameAll (A1 A2 : Option Addr) (ms : List Msg) (c1 c2 : Nat) (w : World) (h1 : MsgsRd w A1 ms) (h2 : MsgsRd w A2 ms) (hl : ms.length ≤ 17592186043904) (hv : ∀ m ∈ ms, m.vals.length ≤ 17592186043904) :
    Calls Try.prog 48 #[.slice A1 ms.length c1, .slice A2 ms.length c2] w fun e w' => e = .returned (.bool true) ∧ Below w.heap.size w w' := by
  have H1 := Lib.hid h1; have H2 := Lib.hid h2; have Hv := Lib.hid hv; clear h1 h2 hv
  go_enter Try.func48, Try.ntmps48
  go_wp2_with fail
  go_loopw [5] (fun i wr => ∃ k : Nat, k ≤ ms.length ∧ i = .int .i64 k ∧ Below w.heap.size w wr) (fun i _ => ms.length - (intOf i).toNat)
  case atStart => exact ⟨0, Nat.zero_le _, rfl, Below.refl _ _⟩
  case round =>
    obtain ⟨k, hk, rfl, hW⟩ := hrel
    by_cases hlt : k < ms.length
    · obtain ⟨b1, o1, B1, d1, hA1, x1, r1⟩ := (H1.out.below (hW.mono (Nat.le_refl _))).at_ k hlt
      obtain ⟨b2, o2, B2, d2, hA2, x2, r2⟩ := (H2.out.below (hW.mono (Nat.le_refl _))).at_ k hlt
      subst hA1; subst hA2
      have hzl : (msgAt ms k).vals.length ≤ 17592186043904 := by
        refine Hv.out _ ?_
        rw [msgAt, List.getD, List.getElem?_eq_getElem hlt]
        exact List.getElem_mem _
      generalize msgAt ms k = m at *
      obtain ⟨⟨t0, t1, t2, t3, t4⟩, zs⟩ := m
      dsimp only at x1 x2 r1 r2 hzl
      obtain ⟨p0, p1, p2, p3, p4, p5⟩ := x1
      obtain ⟨q0, q1, q2, q3, q4, q5⟩ := x2
      dsimp only at p0 p1 p2 p3 p4 q0 q1 q2 q3 q4
      have hs := fun w' (k : Below wr.heap.size wr w') => refSame t0 t1 t2 t3 t4 B1 B2 zs d1 d2 w' (r1.below k) (r2.below k) hzl
      have hb1 := lt_of_cell p0
      have hb2 := lt_of_cell q0
      have Hs := Lib.hid hs; have HW := Lib.hid hW; clear hs hW r1 r2
      go_wp2_with fail
      go_region_held3 (fun w' => w'.cell? ⟨b1, o1 + k * 6, none⟩ = some (.int .i64 t0) ∧ w'.cell? ⟨b1, o1 + k * 6 + 1, none⟩ = some (.int .i64 t1) ∧ w'.cell? ⟨b1, o1 + k * 6 + 2, none⟩ = some (.int .i64 t2) ∧ w'.cell? ⟨b1, o1 + k * 6 + 3, none⟩ = some (.int .i64 t3) ∧ w'.cell? ⟨b1, o1 + k * 6 + 4, none⟩ = some (.int .i64 t4) ∧ w'.cell? ⟨b1, o1 + k * 6 + 5, none⟩ = some (.slice B1 zs.length d1) ∧
          w'.cell? ⟨b2, o2 + k * 6, none⟩ = some (.int .i64 t0) ∧ w'.cell? ⟨b2, o2 + k * 6 + 1, none⟩ = some (.int .i64 t1) ∧ w'.cell? ⟨b2, o2 + k * 6 + 2, none⟩ = some (.int .i64 t2) ∧ w'.cell? ⟨b2, o2 + k * 6 + 3, none⟩ = some (.int .i64 t3) ∧ w'.cell? ⟨b2, o2 + k * 6 + 4, none⟩ = some (.int .i64 t4) ∧ w'.cell? ⟨b2, o2 + k * 6 + 5, none⟩ = some (.slice B2 zs.length d2)) (simp [go_sem, *])
        ((go_at_call 29; refine (Hs.out _ ?_).mono ?_; (focus (repeat' (first | (with_reducible exact Below.refl _ _) | (with_reducible assumption) | (with_reducible refine Below.setCell ?_ ?_ _) | (with_reducible refine Below.alloc ?_ ?_ _) | (with_reducible refine below_drewN ?_ _) | (with_reducible refine Below.drew ?_) | (with_reducible exact Nat.le_refl _) | omega | (simp; done) | (simp; omega)))); rintro e w5 ⟨rfl, hb5⟩; refine first_then (p := Below wr.heap.size wr w5) ?_ ?_; (focus (refine Below.trans ?_ (hb5.mono (by simp)); (focus (repeat' (first | (with_reducible exact Below.refl _ _) | (with_reducible assumption) | (with_reducible refine Below.setCell ?_ ?_ _) | (with_reducible refine Below.alloc ?_ ?_ _) | (with_reducible refine below_drewN ?_ _) | (with_reducible refine Below.drew ?_) | (with_reducible exact Nat.le_refl _) | omega | (simp; done) | (simp; omega)))); done)); intro hB5; have g1 := fun o => hB5.cell (p := ⟨b1, o, none⟩) hb1; have g2 := fun o => hB5.cell (p := ⟨b2, o, none⟩) hb2; have HB5 := Lib.hid hB5; clear hb5 hB5))
      all_goals
        go_wp2_with fail
        go_roundw
        case rel =>
          refine ⟨k + 1, by omega, by go_num, HW.out.trans (Below.mono (B := wr.heap.size) ?_ HW.out.size)⟩
          have hb5 := HB5.out
          (focus (repeat' (first | (with_reducible exact Below.refl _ _) | (with_reducible assumption) | (with_reducible refine Below.setCell ?_ ?_ _) | (with_reducible refine Below.alloc ?_ ?_ _) | (with_reducible refine below_drewN ?_ _) | (with_reducible refine Below.drew ?_) | (with_reducible exact Nat.le_refl _) | omega | (simp; done) | (simp; omega))))
        case measure => simp [intOf]; omega
    · obtain rfl : k = ms.length := by omega
      go_wp2_with fail
      go_ret
      exact ⟨rfl, hW⟩

theorem flatten_drop {rows : List (List Value)} {k : Nat} (h : ∀ r ∈ rows, r.length = k) : ∀ n, (List.flatten rows).drop (n * k) = List.flatten (rows.drop n) := by
  induction rows with
  | nil => intro n; simp
  | cons r l ih =>
    intro n
    cases n with
    | zero => simp
    | succ n =>
      have hr := h r (by simp)
      rw [List.flatten_cons, List.drop_append, List.drop_of_length_le (by rw [hr, Nat.add_mul]; omega), List.nil_append, hr, show (n + 1) * k - k = n * k by rw [Nat.add_mul]; omega, ih (fun r hr => h r (by simp [hr])) n, List.drop_succ_cons]

theorem MsgsRd.slice {w : World} {A : Option Addr} {ms : List Msg} (h : MsgsRd w A ms) (n : Nat) (A' : Option Addr) (hA : ∀ b o, A = some ⟨b, o, none⟩ → A' = some ⟨b, o + n * 6, none⟩) : MsgsRd w A' (ms.drop n) := by
  by_cases hn : n < ms.length
  · obtain ⟨b, o, B, d, rfl, _, _⟩ := h.at_ 0 (by omega)
    obtain rfl := hA b o rfl
    obtain ⟨rows, h1, h2, h3, h4⟩ := h
    refine ⟨rows.drop n, ?_, by simp [h2], fun r hr => h3 r (List.mem_of_mem_drop hr), fun j hj => ?_⟩
    · rw [← flatten_drop h3]; exact h1.drop _
    · have := h4 (n + j) (by simp at hj; omega)
      simpa [rowAt, msgAt] using this
  · rw [List.drop_of_length_le (by omega)]; exact MsgsRd.nil _ _

theorem refMsgs (cap : Int) (A : Option Addr) (ms : List Msg) (c r : Nat) (pk : Int) (w : World) (h : MsgsRd w A ms) (hr : r ≤ ms.length) (hc : ms.length ≤ c) (hl : ms.length ≤ 17592186043904) :
    Calls Try.prog 32 #[.agg #[.int .i64 cap, .slice A ms.length c, .int .i64 r, .int .i64 pk]] w fun e w' => ∃ A' c', e = .returned (.slice A' (ms.length - r) c') ∧ MsgsRd w' A' (ms.drop r) ∧ Below w.heap.size w w' := by
  have H := Lib.hid h
  by_cases hcr : c = r
  · obtain rfl : c = ms.length := by omega
    obtain rfl : r = ms.length := by omega
    clear hr hc h hcr
    go_enter Try.func32, Try.ntmps32
    go_wp2_with fail
    go_ret
    refine ⟨A, 0, by rw [Nat.sub_self]; rfl, ?_, ?_⟩
    · rw [List.drop_of_length_le (Nat.le_refl _)]; exact MsgsRd.nil _ _
    · (focus (repeat' (first | (with_reducible exact Below.refl _ _) | (with_reducible assumption) | (with_reducible refine Below.setCell ?_ ?_ _) | (with_reducible refine Below.alloc ?_ ?_ _) | (with_reducible refine below_drewN ?_ _) | (with_reducible refine Below.drew ?_) | (with_reducible exact Nat.le_refl _) | omega | (simp; done) | (simp; omega))))
  · cases A with
    | none =>
      have hm : ms = [] := by
        cases ms with
        | nil => rfl
        | cons m l => obtain ⟨b, o, _, _, h, _⟩ := h.at_ 0 (by simp); cases h
      subst hm
      obtain rfl : r = 0 := by simpa using hr
      clear hr hc h
      go_enter Try.func32, Try.ntmps32
      go_wp2_with fail
      go_ret
      refine ⟨_, _, rfl, ?_, ?_⟩
      · exact MsgsRd.nil _ _
      · (focus (repeat' (first | (with_reducible exact Below.refl _ _) | (with_reducible assumption) | (with_reducible refine Below.setCell ?_ ?_ _) | (with_reducible refine Below.alloc ?_ ?_ _) | (with_reducible refine below_drewN ?_ _) | (with_reducible refine Below.drew ?_) | (with_reducible exact Nat.le_refl _) | omega | (simp; done) | (simp; omega))))
    | some a =>
      clear h
      go_enter Try.func32, Try.ntmps32
      go_wp2_with fail
      go_ret
      refine ⟨_, _, rfl, ?_, ?_⟩
      · refine MsgsRd.slice (H.out.below ?_) r _ ?_
        · (focus (repeat' (first | (with_reducible exact Below.refl _ _) | (with_reducible assumption) | (with_reducible refine Below.setCell ?_ ?_ _) | (with_reducible refine Below.alloc ?_ ?_ _) | (with_reducible refine below_drewN ?_ _) | (with_reducible refine Below.drew ?_) | (with_reducible exact Nat.le_refl _) | omega | (simp; done) | (simp; omega))))
        · intro b o e; cases e; simp [Addr.add]
      · (focus (repeat' (first | (with_reducible exact Below.refl _ _) | (with_reducible assumption) | (with_reducible refine Below.setCell ?_ ?_ _) | (with_reducible refine Below.alloc ?_ ?_ _) | (with_reducible refine below_drewN ?_ _) | (with_reducible refine Below.drew ?_) | (with_reducible exact Nat.le_refl _) | omega | (simp; done) | (simp; omega))))
end Go.Proofs.Ytpoeppehijhnnaa
