/- The reference's link: Len, Send. -/
import Derived.Test.YtpoeppehijhnnaaLinkS0
import Derived.Deep.DeepCutAuto
namespace Go.Proofs.Ytpoeppehijhnnaa
open Go.RowKit

/-- A list of messages that is read. -/
def MsgsRd (w : World) (A : Option Addr) (ms : List Msg) : Prop :=
  ∃ rows, Rd w A (List.flatten rows) ∧ rows.length = ms.length ∧ (∀ r ∈ rows, r.length = 6) ∧ ∀ j, j < ms.length → MsgRd w (rowAt rows j) (msgAt ms j)
theorem MsgRd.same {w w' : World} {cs : List Value} {m : Msg} (h : MsgRd w cs m) (hb : ∀ b, b < w.heap.size → w'.heap[b]? = w.heap[b]?) : MsgRd w' cs m := by
  obtain ⟨A, c, e, hr⟩ := h
  exact ⟨A, c, e, hr.same hb⟩
theorem MsgsRd.same {w w' : World} {A : Option Addr} {ms : List Msg} (h : MsgsRd w A ms) (hb : ∀ b, b < w.heap.size → w'.heap[b]? = w.heap[b]?) : MsgsRd w' A ms := by
  obtain ⟨rows, h1, h2, h3, h4⟩ := h
  exact ⟨rows, h1.same hb, h2, h3, fun j hj => (h4 j hj).same hb⟩
theorem MsgsRd.below {w w' : World} {A : Option Addr} {ms : List Msg} (h : MsgsRd w A ms) (hb : Below w.heap.size w w') : MsgsRd w' A ms := h.same hb.block
theorem MsgsRd.nil (w : World) (A : Option Addr) : MsgsRd w A [] := ⟨[], Rd.nil _ _, rfl, by simp, by simp⟩
theorem flatten_len {rows : List (List Value)} {k : Nat} (h : ∀ r ∈ rows, r.length = k) : (List.flatten rows).length = rows.length * k := by
  induction rows with
  | nil => simp
  | cons r l ih => rw [List.flatten_cons, List.length_append, h r (by simp), ih (fun r hr => h r (by simp [hr])), List.length_cons, Nat.add_mul]; omega

/-- The same, where the messages' values are read in another world. -/
def MsgsIn (V w : World) (A : Option Addr) (ms : List Msg) : Prop :=
  ∃ rows, Rd w A (List.flatten rows) ∧ rows.length = ms.length ∧ (∀ r ∈ rows, r.length = 6) ∧ ∀ j, j < ms.length → MsgRd V (rowAt rows j) (msgAt ms j)
theorem MsgsIn.nil (V w : World) (A : Option Addr) : MsgsIn V w A [] := ⟨[], Rd.nil _ _, rfl, by simp, by simp⟩
theorem MsgsIn.rd {V w : World} {A : Option Addr} {ms : List Msg} (h : MsgsIn V w A ms) (hb : Below V.heap.size V w) : MsgsRd w A ms := by
  obtain ⟨rows, h1, h2, h3, h4⟩ := h
  exact ⟨rows, h1, h2, h3, fun j hj => (h4 j hj).same hb.block⟩
theorem MsgsRd.in_ {w : World} {A : Option Addr} {ms : List Msg} (h : MsgsRd w A ms) : MsgsIn w w A ms := h
theorem MsgsIn.keep {V w w' : World} {S : Nat → Prop} {A : Option Addr} {ms : List Msg} (h : MsgsIn V w A ms) (k : Keep S w w') (hA : ∀ a, A = some a → ¬ S a.block) : MsgsIn V w' A ms := by
  obtain ⟨rows, h1, h2, h3, h4⟩ := h
  exact ⟨rows, k.rd h1 hA, h2, h3, h4⟩

/-- A fact first, then what it is for. -/
theorem first_then {p q : Prop} (h : p) (k : p → q) : q := k h
theorem own_emptyN (w : World) (e : TypeId) (size n base : Nat) (hn : w.heap.size = n) (hb : base ≤ n) : (w.alloc (.cells #[] e)).ownsRow base e size (.slice (some ⟨n, 0, none⟩) 0 0) 0 [] := by
  subst hn
  exact World.ownsRow_made w #[] 0 hb (by unfold maxLen; omega) (by simp)

theorem refLen (cap : Int) (A : Option Addr) (n c : Nat) (r pk : Int) (w : World) (hr : 0 ≤ r ∧ r ≤ n) (hn : n ≤ 17592186043904) :
    Calls Try.prog 47 #[.agg #[.int .i64 cap, .slice A n c, .int .i64 r, .int .i64 pk]] w fun e w' => e = .returned (.int .i64 ((n : Int) - r)) ∧ w' = w.alloc (.cells #[.int .i64 cap, .slice A n c, .int .i64 r, .int .i64 pk] 46) := by
  go_enter Try.func47, Try.ntmps47
  go_wp2
  go_ret
  exact ⟨rfl, rfl⟩

theorem msg_one (t0 t1 t2 t3 t4 : Int) (v : Value) (hv : v.oneCell' = true) : ∀ u ∈ [Value.int .i64 t0, .int .i64 t1, .int .i64 t2, .int .i64 t3, .int .i64 t4, v], u.oneCell' = true := by
  intro u hu
  simp at hu
  rcases hu with rfl | rfl | rfl | rfl | rfl | rfl <;> first | rfl | exact hv
theorem rows_one {w : World} {ms : List Msg} {rows : List (List Value)} (h2 : rows.length = ms.length) (h4 : ∀ j, j < ms.length → MsgRd w (rowAt rows j) (msgAt ms j)) : ∀ u ∈ List.flatten rows, u.oneCell' = true := by
  intro u hu
  obtain ⟨r, hr, hu⟩ := List.mem_flatten.1 hu
  obtain ⟨j, hj, e⟩ := List.getElem_of_mem hr
  obtain ⟨A', c, e2, _⟩ := h4 j (by omega)
  rw [show rowAt rows j = r by simp [rowAt, hj, e]] at e2
  subst e2
  exact msg_one _ _ _ _ _ _ rfl u hu

theorem refsend_meet {w1 w3 : World} {k : Nat} {cap r pk : Int} {x : Value} {A3 : Option Addr} {n c3 : Nat} {xs : List Value} (hk : k < w1.heap.size) (hf : w1.heap[k]? = some (.cells #[.int .i64 cap, x, .int .i64 r, .int .i64 pk] 46 (0, 0)))
    (hB : Below w1.heap.size w1 w3) (ho : w3.ownsRow w1.heap.size 37 6 (.slice A3 n c3) n xs) (v : Value) :
    (w3.setCell ⟨k, 1, none⟩ v).ownsRow w1.heap.size 37 6 (.slice A3 n c3) n xs ∧ (w3.setCell ⟨k, 1, none⟩ v).heap[k]? = some (.cells #[.int .i64 cap, v, .int .i64 r, .int .i64 pk] 46 (0, 0)) ∧ Keep (fun i => i = k) w1 (w3.setCell ⟨k, 1, none⟩ v) := by
  refine ⟨ownsRow_setCell_other ho (fun e => by have := (ho.lt _ e).1; simp at this; omega) v, ?_, Keep.setCell (S := fun i => i = k) (Keep.below hB) ⟨k, 1, none⟩ (.inr rfl) v⟩
  exact heap_setCell_same w3 k 1 _ _ v ((hB.block k hk).trans hf)

/-- What the reference's Send gives. -/
def RefSent (V : World) (cap r : Nat) (pk : Nat) (ms : List Msg) (w : World) (e : Ending) (w' : World) : Prop :=
  ∃ A' c' P, P = (pk : Int) ∧ e = .returned (.tuple #[.agg #[.int .i64 cap, .slice A' ms.length c', .int .i64 r, .int .i64 P], .int .i64 0]) ∧ (MsgsIn V w' A' ms ∧ ms.length ≤ c' ∧ ∀ a, A' = some a → w.heap.size ≤ a.block) ∧ Below w.heap.size w w'
theorem refsend_end {V W : World} {A' B : Option Addr} {ms : List Msg} {rows : List (List Value)} {t0 t1 t2 t3 t4 : Int} {zs : List Int} {d : Nat} (h2 : rows.length = ms.length) (h3 : ∀ r ∈ rows, r.length = 6)
    (h4 : ∀ j, j < ms.length → MsgRd V (rowAt rows j) (msgAt ms j)) (hB : Rd V B (nums .i64 zs)) (hr : Rd W A' (List.flatten rows ++ [.int .i64 t0, .int .i64 t1, .int .i64 t2, .int .i64 t3, .int .i64 t4, .slice B zs.length d])) :
    MsgsIn V W A' (ms ++ [⟨⟨t0, t1, t2, t3, t4⟩, zs⟩]) := by
  refine ⟨rows ++ [[.int .i64 t0, .int .i64 t1, .int .i64 t2, .int .i64 t3, .int .i64 t4, .slice B zs.length d]], ?_, by simp [h2], ?_, ?_⟩
  · rw [List.flatten_append, List.flatten_cons, List.flatten_nil, List.append_nil]; exact hr
  · intro r hr
    rcases List.mem_append.1 hr with hr | hr
    · exact h3 r hr
    · rw [List.mem_singleton.1 hr]; rfl
  · intro j hj
    rcases Nat.lt_or_ge j ms.length with h | h
    · rw [rowAt_app_left _ _ _ (by omega), msgAt_app_left _ _ _ h]
      exact h4 j h
    · obtain rfl : j = ms.length := by simp at hj; omega
      rw [msgAt_app_last, ← h2, rowAt_app_last]
      exact ⟨B, d, rfl, hB⟩

set_option maxHeartbeats 3200000 in
theorem refSend (V : World) (cap : Nat) (A : Option Addr) (ms : List Msg) (c r pk : Nat) (t : Tg) (B : Option Addr) (zs : List Int) (d : Nat) (w : World) (hr : r ≤ ms.length) (hn : ms.length ≤ 100000000000) (hroom : ms.length < r + cap) (hA : MsgsIn V w A ms) (hB : Rd V B (nums .i64 zs)) :
    Calls Try.prog 25 #[.agg #[.int .i64 cap, .slice A ms.length c, .int .i64 r, .int .i64 pk], .agg #[.int .i64 t.a, .int .i64 t.b, .int .i64 t.c, .int .i64 t.d, .int .i64 t.e, .slice B zs.length d]] w (RefSent V cap r (max pk (ms.length + 1 - r)) (ms ++ [⟨t, zs⟩]) w) := by
  obtain ⟨t0, t1, t2, t3, t4⟩ := t
  obtain ⟨rows, h1, h2, h3, h4⟩ := hA
  have hfl := flatten_len h3
  rw [h2] at hfl
  have hone := rows_one h2 h4
  have hlen1 := fun W => refLen cap A ms.length c r pk W (by omega) (by omega)
  have Hl1 := Lib.hid hlen1; have Hfl := Lib.hid hfl; have Hone := Lib.hid hone; have H2 := Lib.hid h2; have H3 := Lib.hid h3; have H4 := Lib.hid h4
  clear hlen1 hfl hone h2 h3 h4
  go_enter Try.func25, Try.ntmps25
  go_wp2_with fail
  go_region_held3 (fun w' => w'.cell? ⟨w.heap.size, 0, none⟩ = some (.int .i64 (cap : Int)) ∧ w'.cell? ⟨w.heap.size, 1, none⟩ = some (.slice A ms.length c) ∧ w'.cell? ⟨w.heap.size, 2, none⟩ = some (.int .i64 (r : Int)) ∧ w'.cell? ⟨w.heap.size, 3, none⟩ = some (.int .i64 (pk : Int))) (simp [go_sem, World.cell?_alloc_past, *])
    ((go_at_call 47; refine (Hl1.out _).mono ?_; rintro e w' ⟨rfl, rfl⟩))
  go_wp2_with fail
  generalize hw1 : World.drew _ = w1
  have hf : (w1.heap[w.heap.size]? = some (.cells #[.int .i64 (cap : Int), .slice A ms.length c, .int .i64 (r : Int), .int .i64 (pk : Int)] 46 (0, 0))) ∧ (w1.heap[w.heap.size + 1]? = some (.cells #[.int .i64 t0, .int .i64 t1, .int .i64 t2, .int .i64 t3, .int .i64 t4, .slice B zs.length d] 37 (0, 0))) ∧
      (w1.heap[w.heap.size + 1 + 1]? = some (.cells #[.int .i64 0, .slice none 0 0, .int .i64 0, .int .i64 0] 46 (0, 0))) ∧ w.heap.size + 4 = w1.heap.size ∧ Below w.heap.size w w1 := by
    subst hw1
    refine ⟨?_, ?_, ?_, by simp, ?_⟩
    · show ((((w.heap.push _).push _).push _).push _)[_]? = _
      simp only [Array.getElem?_push, Array.size_push]
      rw [if_neg (by omega), if_neg (by omega), if_neg (by omega), if_pos trivial]
    · show ((((w.heap.push _).push _).push _).push _)[_]? = _
      simp only [Array.getElem?_push, Array.size_push]
      rw [if_neg (by omega), if_neg (by omega), if_pos trivial]
    · show ((((w.heap.push _).push _).push _).push _)[_]? = _
      simp only [Array.getElem?_push, Array.size_push]
      rw [if_neg (by omega), if_pos trivial]
    · (focus (repeat' (first | (with_reducible exact Below.refl _ _) | (with_reducible assumption) | (with_reducible refine Below.setCell ?_ ?_ _) | (with_reducible refine Below.alloc ?_ ?_ _) | (with_reducible refine below_drewN ?_ _) | (with_reducible refine Below.drew ?_) | (with_reducible exact Nat.le_refl _) | omega | (simp; done) | (simp; omega))))
  obtain ⟨hf1, hf2, hf3, hsz, hW1⟩ := hf
  have b0 : w1.cell? ⟨w.heap.size, 0, none⟩ = some (.int .i64 (cap : Int)) := cell_of_row w1 _ 0 _ _ _ hf1
  have b1 : w1.cell? ⟨w.heap.size, 1, none⟩ = some (.slice A ms.length c) := cell_of_row w1 _ 1 _ _ _ hf1
  have b2 : w1.cell? ⟨w.heap.size, 2, none⟩ = some (.int .i64 (r : Int)) := cell_of_row w1 _ 2 _ _ _ hf1
  have b3 : w1.cell? ⟨w.heap.size, 3, none⟩ = some (.int .i64 (pk : Int)) := cell_of_row w1 _ 3 _ _ _ hf1
  have bf := fun j => frozen_of_row w1 _ j _ _ hf1
  have m0 : w1.cell? ⟨w.heap.size + 1, 0, none⟩ = some (.int .i64 t0) := cell_of_row w1 _ 0 _ _ _ hf2
  have m1 : w1.cell? ⟨w.heap.size + 1, 1, none⟩ = some (.int .i64 t1) := cell_of_row w1 _ 1 _ _ _ hf2
  have m2 : w1.cell? ⟨w.heap.size + 1, 2, none⟩ = some (.int .i64 t2) := cell_of_row w1 _ 2 _ _ _ hf2
  have m3 : w1.cell? ⟨w.heap.size + 1, 3, none⟩ = some (.int .i64 t3) := cell_of_row w1 _ 3 _ _ _ hf2
  have m4 : w1.cell? ⟨w.heap.size + 1, 4, none⟩ = some (.int .i64 t4) := cell_of_row w1 _ 4 _ _ _ hf2
  have m5 : w1.cell? ⟨w.heap.size + 1, 5, none⟩ = some (.slice B zs.length d) := cell_of_row w1 _ 5 _ _ _ hf2
  have hs0 : w.heap.size < w1.heap.size := by omega
  have hs1 : w.heap.size + 1 < w1.heap.size := by omega
  have hs2 : w.heap.size + 1 + 1 < w1.heap.size := by omega
  have hA1 := h1.below hW1
  have Hw1 := Lib.hid hw1; have Hsz := Lib.hid hsz; have Hf1 := Lib.hid hf1; have Hf2 := Lib.hid hf2; have Hf3 := Lib.hid hf3
  clear hw1 hsz hf1 hf2 hf3 h1
  go_cut [] (fun wx => ∃ A' c', wx.ownsRow w1.heap.size 37 6 (.slice A' (ms.length + 1) c') (ms.length + 1) (List.flatten rows ++ [.int .i64 t0, .int .i64 t1, .int .i64 t2, .int .i64 t3, .int .i64 t4, .slice B zs.length d]) ∧
      wx.heap[w.heap.size]? = some (.cells #[.int .i64 (cap : Int), .slice A' (ms.length + 1) c', .int .i64 (r : Int), .int .i64 (pk : Int)] 46 (0, 0)) ∧ Keep (fun k => k = w.heap.size) w1 wx)
  case first =>
    go_region_law (first | (refine step_app et_msgs rfl (.tmp 12) (.tmp 14) rfl w1.heap.size (.slice (some ⟨w1.heap.size, 0, none⟩) 0 0) 0 [] rfl ?_ A ms.length c (List.flatten rows) rfl ?_ ?_ ?_ ?_ ?_ ?_ ?_; (focus ((repeat' (first | (with_reducible refine World.ownsRow.drew ?_) | (refine own_emptyN _ _ _ _ _ ?_ ?_; (focus (try simp)); omega) | (with_reducible refine World.ownsRow.alloc ?_ _))); done)); (focus ((repeat' (first | (with_reducible exact hA1) | (with_reducible refine Rd.drew ?_) | (with_reducible refine Rd.alloc ?_ _))); done)); exact Hfl.out; exact Hone.out; omega; (unfold maxLen; omega); (simp; try omega); intro A2 c2 w2 hown2 hbel2 hgrow2 hat2; simp only [Nat.zero_add, List.nil_append] at hown2; refine first_then (p := Below w1.heap.size w1 w2) ?_ ?_; (focus (refine Below.trans ?_ hbel2; (focus (repeat' (first | (with_reducible exact Below.refl _ _) | (with_reducible assumption) | (with_reducible refine Below.setCell ?_ ?_ _) | (with_reducible refine Below.alloc ?_ ?_ _) | (with_reducible refine below_drewN ?_ _) | (with_reducible refine Below.drew ?_) | (with_reducible exact Nat.le_refl _) | omega | (simp; done) | (simp; omega)))); done)); intro hB2; have hs2 := hB2.size; have n0 := (hB2.cell (p := ⟨w.heap.size + 1, 0, none⟩) hs1).trans m0; have n1 := (hB2.cell (p := ⟨w.heap.size + 1, 1, none⟩) hs1).trans m1; have n2 := (hB2.cell (p := ⟨w.heap.size + 1, 2, none⟩) hs1).trans m2; have n3 := (hB2.cell (p := ⟨w.heap.size + 1, 3, none⟩) hs1).trans m3; have n4 := (hB2.cell (p := ⟨w.heap.size + 1, 4, none⟩) hs1).trans m4; have n5 := (hB2.cell (p := ⟨w.heap.size + 1, 5, none⟩) hs1).trans m5; refine first_then (p := Rd w2 (some ⟨w1.heap.size + 1, 0, none⟩) [.int .i64 t0, .int .i64 t1, .int .i64 t2, .int .i64 t3, .int .i64 t4, .slice B zs.length d]) ?_ ?_; (focus (refine Rd.grown (row := some w1.heap.size) ?_ hgrow2 ?_; (focus ((repeat' (first | (with_reducible refine Rd.drew ?_) | (refine rd_newN _ _ _ _ ?_; simp; done) | (with_reducible refine Rd.alloc ?_ _))); done)); (intro a ha; cases ha; simp))); intro hsrc; refine first_then (p := w.heap.size < w2.heap.size ∧ w.heap.size + 1 < w2.heap.size) (And.intro ?_ ?_) ?_; omega; omega; intro hss; have hs02 := hss.1; have hs12 := hss.2; have p1 := (hB2.cell (p := ⟨w.heap.size, 1, none⟩) hs0).trans b1; have pf1 := (hB2.frozen (p := ⟨w.heap.size, 1, none⟩) hs0).trans (bf 1); have HB2 := Lib.hid hB2; have Hown2 := Lib.hid hown2; have Hsrc := Lib.hid hsrc; clear hB2 hown2 hsrc hbel2 hgrow2 hat2 hss) | (refine step_app et_msgs rfl (.tmp 12) (.tmp 14) rfl w1.heap.size (.slice (some ⟨w1.heap.size + 1, 0, none⟩) 0 0) 0 [] rfl ?_ A ms.length c (List.flatten rows) rfl ?_ ?_ ?_ ?_ ?_ ?_ ?_; (focus ((repeat' (first | (with_reducible refine World.ownsRow.drew ?_) | (refine own_emptyN _ _ _ _ _ ?_ ?_; (focus (try simp)); omega) | (with_reducible refine World.ownsRow.alloc ?_ _))); done)); (focus ((repeat' (first | (with_reducible exact hA1) | (with_reducible refine Rd.drew ?_) | (with_reducible refine Rd.alloc ?_ _))); done)); exact Hfl.out; exact Hone.out; omega; (unfold maxLen; omega); (simp; try omega); intro A2 c2 w2 hown2 hbel2 hgrow2 hat2; simp only [Nat.zero_add, List.nil_append] at hown2; refine first_then (p := Below w1.heap.size w1 w2) ?_ ?_; (focus (refine Below.trans ?_ hbel2; (focus (repeat' (first | (with_reducible exact Below.refl _ _) | (with_reducible assumption) | (with_reducible refine Below.setCell ?_ ?_ _) | (with_reducible refine Below.alloc ?_ ?_ _) | (with_reducible refine below_drewN ?_ _) | (with_reducible refine Below.drew ?_) | (with_reducible exact Nat.le_refl _) | omega | (simp; done) | (simp; omega)))); done)); intro hB2; have hs2 := hB2.size; have n0 := (hB2.cell (p := ⟨w.heap.size + 1, 0, none⟩) hs1).trans m0; have n1 := (hB2.cell (p := ⟨w.heap.size + 1, 1, none⟩) hs1).trans m1; have n2 := (hB2.cell (p := ⟨w.heap.size + 1, 2, none⟩) hs1).trans m2; have n3 := (hB2.cell (p := ⟨w.heap.size + 1, 3, none⟩) hs1).trans m3; have n4 := (hB2.cell (p := ⟨w.heap.size + 1, 4, none⟩) hs1).trans m4; have n5 := (hB2.cell (p := ⟨w.heap.size + 1, 5, none⟩) hs1).trans m5; refine first_then (p := Rd w2 (some ⟨w1.heap.size, 0, none⟩) [.int .i64 t0, .int .i64 t1, .int .i64 t2, .int .i64 t3, .int .i64 t4, .slice B zs.length d]) ?_ ?_; (focus (refine Rd.grown (row := some (w1.heap.size + 1)) ?_ hgrow2 ?_; (focus ((repeat' (first | (with_reducible refine Rd.drew ?_) | (refine rd_newN _ _ _ _ ?_; simp; done) | (with_reducible refine Rd.alloc ?_ _))); done)); (intro a ha; cases ha; simp))); intro hsrc; refine first_then (p := w.heap.size < w2.heap.size ∧ w.heap.size + 1 < w2.heap.size) (And.intro ?_ ?_) ?_; omega; omega; intro hss; have hs02 := hss.1; have hs12 := hss.2; have p1 := (hB2.cell (p := ⟨w.heap.size, 1, none⟩) hs0).trans b1; have pf1 := (hB2.frozen (p := ⟨w.heap.size, 1, none⟩) hs0).trans (bf 1); have HB2 := Lib.hid hB2; have Hown2 := Lib.hid hown2; have Hsrc := Lib.hid hsrc; clear hB2 hown2 hsrc hbel2 hgrow2 hat2 hss) | (refine step_app et_msgs rfl (.tmp 12) (.tmp 14) rfl w1.heap.size (.slice (some ⟨w1.heap.size, 0, none⟩) 0 0) 0 [] rfl ?_ A ms.length c (List.flatten rows) rfl ?_ ?_ ?_ ?_ ?_ ?_ ?_; (focus ((repeat' (first | (with_reducible refine World.ownsRow.drew ?_) | (refine own_emptyN _ _ _ _ _ ?_ ?_; (focus (try simp)); omega) | (with_reducible refine World.ownsRow.alloc ?_ _))); done)); (focus ((repeat' (first | (with_reducible exact hA1) | (with_reducible refine Rd.drew ?_) | (with_reducible refine Rd.alloc ?_ _))); done)); exact Hfl.out; exact Hone.out; omega; (unfold maxLen; omega); (simp; try omega); intro A2 c2 w2 hown2 hbel2 hgrow2 hat2; simp only [Nat.zero_add, List.nil_append] at hown2; refine first_then (p := Below w1.heap.size w1 w2) ?_ ?_; (focus (refine Below.trans ?_ hbel2; (focus (repeat' (first | (with_reducible exact Below.refl _ _) | (with_reducible assumption) | (with_reducible refine Below.setCell ?_ ?_ _) | (with_reducible refine Below.alloc ?_ ?_ _) | (with_reducible refine below_drewN ?_ _) | (with_reducible refine Below.drew ?_) | (with_reducible exact Nat.le_refl _) | omega | (simp; done) | (simp; omega)))); done)); intro hB2; have hs2 := hB2.size; have n0 := (hB2.cell (p := ⟨w.heap.size + 1, 0, none⟩) hs1).trans m0; have n1 := (hB2.cell (p := ⟨w.heap.size + 1, 1, none⟩) hs1).trans m1; have n2 := (hB2.cell (p := ⟨w.heap.size + 1, 2, none⟩) hs1).trans m2; have n3 := (hB2.cell (p := ⟨w.heap.size + 1, 3, none⟩) hs1).trans m3; have n4 := (hB2.cell (p := ⟨w.heap.size + 1, 4, none⟩) hs1).trans m4; have n5 := (hB2.cell (p := ⟨w.heap.size + 1, 5, none⟩) hs1).trans m5; have hsrc : Rd w2 (some ⟨w2.heap.size, 0, none⟩) [] := Rd.nil _ _; refine first_then (p := w.heap.size < w2.heap.size ∧ w.heap.size + 1 < w2.heap.size) (And.intro ?_ ?_) ?_; omega; omega; intro hss; have hs02 := hss.1; have hs12 := hss.2; have p1 := (hB2.cell (p := ⟨w.heap.size, 1, none⟩) hs0).trans b1; have pf1 := (hB2.frozen (p := ⟨w.heap.size, 1, none⟩) hs0).trans (bf 1); have HB2 := Lib.hid hB2; have Hown2 := Lib.hid hown2; have Hsrc := Lib.hid hsrc; clear hB2 hown2 hsrc hbel2 hgrow2 hat2 hss) | (refine step_app et_msgs rfl (.tmp 15) (.tmp 17) rfl w1.heap.size (.slice A2 ms.length c2) ms.length (List.flatten rows) rfl ?_ (some ⟨w2.heap.size, 0, none⟩) 1 1 [.int .i64 t0, .int .i64 t1, .int .i64 t2, .int .i64 t3, .int .i64 t4, .slice B zs.length d] rfl ?_ rfl (msg_one _ _ _ _ _ _ rfl) ?_ ?_ ?_ ?_; (focus ((repeat' (first | (with_reducible exact Hown2.out) | (with_reducible refine World.ownsRow.drew ?_) | (with_reducible refine World.ownsRow.alloc ?_ _))); done)); (focus ((repeat' (first | (with_reducible refine Rd.drew ?_) | exact rd_newN _ _ _ _ rfl)); done)); omega; (unfold maxLen; omega); (first | omega | (focus (simp; omega)) | simp); intro A3 c3 w3 hown3 hbel3 hgrow3 hat3; refine first_then (p := Below w1.heap.size w1 w3) ?_ ?_; (focus (refine HB2.out.trans (Below.trans ?_ hbel3); (focus (repeat' (first | (with_reducible exact Below.refl _ _) | (with_reducible assumption) | (with_reducible refine Below.setCell ?_ ?_ _) | (with_reducible refine Below.alloc ?_ ?_ _) | (with_reducible refine below_drewN ?_ _) | (with_reducible refine Below.drew ?_) | (with_reducible exact Nat.le_refl _) | omega | (simp; done) | (simp; omega)))); done)); intro hB3; have q1 := (hB3.cell (p := ⟨w.heap.size, 1, none⟩) hs0).trans b1; have qf1 := (hB3.frozen (p := ⟨w.heap.size, 1, none⟩) hs0).trans (bf 1); have HB3 := Lib.hid hB3; have Hown3 := Lib.hid hown3; clear hB3 hown3 hbel3 hgrow3 hat3) | (refine step_app et_msgs rfl (.tmp 15) (.tmp 17) rfl w1.heap.size (.slice A2 ms.length c2) ms.length (List.flatten rows) rfl ?_ (some ⟨w1.heap.size + 1, 0, none⟩) 1 1 [.int .i64 t0, .int .i64 t1, .int .i64 t2, .int .i64 t3, .int .i64 t4, .slice B zs.length d] rfl ?_ rfl (msg_one _ _ _ _ _ _ rfl) ?_ ?_ ?_ ?_; (focus ((repeat' (first | (with_reducible exact Hown2.out) | (with_reducible refine World.ownsRow.drew ?_) | (with_reducible refine World.ownsRow.alloc ?_ _))); done)); (focus ((repeat' (first | (with_reducible exact Hsrc.out) | (with_reducible refine Rd.drew ?_))); done)); omega; (unfold maxLen; omega); (first | omega | (focus (simp; omega)) | simp); intro A3 c3 w3 hown3 hbel3 hgrow3 hat3; refine first_then (p := Below w1.heap.size w1 w3) ?_ ?_; (focus (refine HB2.out.trans (Below.trans ?_ hbel3); (focus (repeat' (first | (with_reducible exact Below.refl _ _) | (with_reducible assumption) | (with_reducible refine Below.setCell ?_ ?_ _) | (with_reducible refine Below.alloc ?_ ?_ _) | (with_reducible refine below_drewN ?_ _) | (with_reducible refine Below.drew ?_) | (with_reducible exact Nat.le_refl _) | omega | (simp; done) | (simp; omega)))); done)); intro hB3; have q1 := (hB3.cell (p := ⟨w.heap.size, 1, none⟩) hs0).trans b1; have qf1 := (hB3.frozen (p := ⟨w.heap.size, 1, none⟩) hs0).trans (bf 1); have HB3 := Lib.hid hB3; have Hown3 := Lib.hid hown3; clear hB3 hown3 hbel3 hgrow3 hat3) | (refine step_app et_msgs rfl (.tmp 15) (.tmp 17) rfl w1.heap.size (.slice A2 ms.length c2) ms.length (List.flatten rows) rfl ?_ (some ⟨w1.heap.size, 0, none⟩) 1 1 [.int .i64 t0, .int .i64 t1, .int .i64 t2, .int .i64 t3, .int .i64 t4, .slice B zs.length d] rfl ?_ rfl (msg_one _ _ _ _ _ _ rfl) ?_ ?_ ?_ ?_; (focus ((repeat' (first | (with_reducible exact Hown2.out) | (with_reducible refine World.ownsRow.drew ?_) | (with_reducible refine World.ownsRow.alloc ?_ _))); done)); (focus ((repeat' (first | (with_reducible exact Hsrc.out) | (with_reducible refine Rd.drew ?_))); done)); omega; (unfold maxLen; omega); (first | omega | (focus (simp; omega)) | simp); intro A3 c3 w3 hown3 hbel3 hgrow3 hat3; refine first_then (p := Below w1.heap.size w1 w3) ?_ ?_; (focus (refine HB2.out.trans (Below.trans ?_ hbel3); (focus (repeat' (first | (with_reducible exact Below.refl _ _) | (with_reducible assumption) | (with_reducible refine Below.setCell ?_ ?_ _) | (with_reducible refine Below.alloc ?_ ?_ _) | (with_reducible refine below_drewN ?_ _) | (with_reducible refine Below.drew ?_) | (with_reducible exact Nat.le_refl _) | omega | (simp; done) | (simp; omega)))); done)); intro hB3; have q1 := (hB3.cell (p := ⟨w.heap.size, 1, none⟩) hs0).trans b1; have qf1 := (hB3.frozen (p := ⟨w.heap.size, 1, none⟩) hs0).trans (bf 1); have HB3 := Lib.hid hB3; have Hown3 := Lib.hid hown3; clear hB3 hown3 hbel3 hgrow3 hat3))
    all_goals go_wp2_with fail
    all_goals go_meet
    all_goals
      have hm := refsend_meet hs0 Hf1.out HB3.out Hown3.out (.slice A3 (ms.length + 1) c3)
      first | exact ⟨A3, c3, hm.1, hm.2.1, hm.2.2⟩ | exact ⟨A3, c3, hm.1, hm.2.1, Keep.drew hm.2.2⟩
  case rest =>
    obtain ⟨A', c', hown, hbox, hK⟩ := hcut
    have hsz1 := hK.size
    have e0 : wc.cell? ⟨w.heap.size, 0, none⟩ = some (.int .i64 (cap : Int)) := cell_of_row wc _ 0 _ _ _ hbox
    have e1 : wc.cell? ⟨w.heap.size, 1, none⟩ = some (.slice A' (ms.length + 1) c') := cell_of_row wc _ 1 _ _ _ hbox
    have e2 : wc.cell? ⟨w.heap.size, 2, none⟩ = some (.int .i64 (r : Int)) := cell_of_row wc _ 2 _ _ _ hbox
    have e3 : wc.cell? ⟨w.heap.size, 3, none⟩ = some (.int .i64 (pk : Int)) := cell_of_row wc _ 3 _ _ _ hbox
    have ef := fun j => frozen_of_row wc _ j _ _ hbox
    have hres := (hK.block (w.heap.size + 1 + 1) hs2 (by omega)).trans Hf3.out
    have g0 : wc.cell? ⟨w.heap.size + 1 + 1, 0, none⟩ = some (.int .i64 0) := cell_of_row wc _ 0 _ _ _ hres
    have g1 : wc.cell? ⟨w.heap.size + 1 + 1, 1, none⟩ = some (.slice none 0 0) := cell_of_row wc _ 1 _ _ _ hres
    have g2 : wc.cell? ⟨w.heap.size + 1 + 1, 2, none⟩ = some (.int .i64 0) := cell_of_row wc _ 2 _ _ _ hres
    have g3 : wc.cell? ⟨w.heap.size + 1 + 1, 3, none⟩ = some (.int .i64 0) := cell_of_row wc _ 3 _ _ _ hres
    have gf := fun j => frozen_of_row wc _ j _ _ hres
    have hs3 : w.heap.size < wc.heap.size := by omega
    have hs4 : w.heap.size + 1 + 1 < wc.heap.size := by omega
    have hl2 := fun W => refLen cap A' (ms.length + 1) c' r pk W (by omega) (by omega)
    have Hl2 := Lib.hid hl2; have HK := Lib.hid hK; have Hown := Lib.hid hown
    clear hl2 hK hown hres hbox b0 b1 b2 b3 bf m0 m1 m2 m3 m4 m5 hA1
    go_wp2_with fail
    go_region_with ((go_at_call 47; refine (Hl2.out _).mono ?_; rintro e w' ⟨rfl, rfl⟩))
    all_goals go_wp2_with fail
    all_goals
      have hKw : Keep (fun k => k < w1.heap.size) wc wc := Keep.refl _ _
      have hB0 : Below w.heap.size w wc := hW1.trans (HK.out.toBelow (by omega) (fun k hk => by omega))
      have hRd := Rd.own Hown.out
      have hcc : ms.length + 1 ≤ c' := by
        obtain ⟨A9, c9, e9, hc9⟩ := own_form Hown.out
        injection e9 with _ _ e9; rw [e9]; exact hc9
      have hblk : ∀ a : Addr, A' = some a → ¬ a.block < w1.heap.size := fun a ha => by
        have := (Hown.out.lt a.block (by rw [ha]; rfl)).1; omega
      first
      | (have hP : (pk : Int) = ((max pk (ms.length + 1 - r) : Nat) : Int) := by omega
         refine bodyPost_ret (v := .tuple #[.agg #[.int .i64 cap, .slice A' (ms.length + 1) c', .int .i64 r, .int .i64 (pk : Int)], .int .i64 0]) (by simp [results, Try.results25, go_sem, g0, g1, g2, g3, hs4]) rfl ⟨A', c', (pk : Int), hP, by rw [List.length_append, List.length_singleton], ⟨?_, by rw [List.length_append, List.length_singleton]; exact hcc, fun a ha => by have := hblk a ha; omega⟩, ?_⟩)
      | (have hP : (ms.length : Int) + 1 - (r : Int) = ((max pk (ms.length + 1 - r) : Nat) : Int) := by omega
         refine bodyPost_ret (v := .tuple #[.agg #[.int .i64 cap, .slice A' (ms.length + 1) c', .int .i64 r, .int .i64 ((ms.length : Int) + 1 - (r : Int))], .int .i64 0]) (by simp [results, Try.results25, go_sem, g0, g1, g2, g3, hs4]) rfl ⟨A', c', (ms.length : Int) + 1 - (r : Int), hP, by rw [List.length_append, List.length_singleton], ⟨?_, by rw [List.length_append, List.length_singleton]; exact hcc, fun a ha => by have := hblk a ha; omega⟩, ?_⟩)
    all_goals first
      | (refine refsend_end (B := B) (d := d) H2.out H3.out H4.out hB (Keep.rd (S := fun k => k < w1.heap.size) (w := wc) ?_ hRd hblk)
         (focus (repeat' (first | (with_reducible exact Keep.refl _ _) | (with_reducible assumption) | (with_reducible refine Keep.setCell ?_ _ ?_ _) | (with_reducible refine Keep.alloc ?_ _) | (with_reducible refine Keep.drewN ?_ _) | (with_reducible refine Keep.drew ?_) | (dsimp only; omega)))))
      | (focus (repeat' (first | (with_reducible exact Below.refl _ _) | (with_reducible assumption) | (with_reducible refine Below.setCell ?_ ?_ _) | (with_reducible refine Below.alloc ?_ ?_ _) | (with_reducible refine below_drewN ?_ _) | (with_reducible refine Below.drew ?_) | (with_reducible exact Nat.le_refl _) | omega | (simp; done) | (simp; omega))))
end Go.Proofs.Ytpoeppehijhnnaa
