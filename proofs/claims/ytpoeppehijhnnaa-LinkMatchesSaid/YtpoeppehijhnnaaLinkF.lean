/- The reference's Receive, and its Send where there is no room. -/
import Derived.Test.YtpoeppehijhnnaaLinkE
namespace Go.Proofs.Ytpoeppehijhnnaa
open Go.RowKit

theorem refSend_full (cap : Nat) (A : Option Addr) (n c r : Nat) (pk : Int) (cs : Array Value) (w : World) (hr : r ≤ n) (hn : n ≤ 100000000000) (hroom : r + cap ≤ n) :
    Calls Try.prog 25 #[.agg #[.int .i64 cap, .slice A n c, .int .i64 r, .int .i64 pk], .agg cs] w fun e w' => e = .returned (.tuple #[.agg #[.int .i64 cap, .slice A n c, .int .i64 r, .int .i64 pk], .int .i64 11]) ∧ Below w.heap.size w w' := by
  have hlen1 := fun W => refLen cap A n c r pk W (by omega) (by omega)
  have Hl1 := Lib.hid hlen1; clear hlen1
  go_enter Try.func25, Try.ntmps25
  go_wp2_with fail
  go_region_held3 (fun w' => w'.cell? ⟨w.heap.size, 0, none⟩ = some (.int .i64 (cap : Int)) ∧ w'.cell? ⟨w.heap.size, 1, none⟩ = some (.slice A n c) ∧ w'.cell? ⟨w.heap.size, 2, none⟩ = some (.int .i64 (r : Int)) ∧ w'.cell? ⟨w.heap.size, 3, none⟩ = some (.int .i64 pk)) (simp [go_sem, World.cell?_alloc_past, *])
    ((go_at_call 47; refine (Hl1.out _).mono ?_; rintro e w' ⟨rfl, rfl⟩))
  go_wp2_with fail
  refine bodyPost_ret (v := .tuple #[.agg #[.int .i64 cap, .slice A n c, .int .i64 r, .int .i64 pk], .int .i64 11]) (by simp [results, Try.results25, go_sem, World.cell?_alloc_past]) rfl ⟨rfl, ?_⟩
  (focus (repeat' (first | (with_reducible exact Below.refl _ _) | (with_reducible assumption) | (with_reducible refine Below.setCell ?_ ?_ _) | (with_reducible refine Below.alloc ?_ ?_ _) | (with_reducible refine below_drewN ?_ _) | (with_reducible refine Below.drew ?_) | (with_reducible exact Nat.le_refl _) | omega | (simp; done) | (simp; omega))))

theorem refRecv_empty (cap : Int) (A : Option Addr) (n c : Nat) (pk : Int) (t : Tg) (w : World) (hn : n ≤ 100000000000) :
    Calls Try.prog 33 #[.agg #[.int .i64 cap, .slice A n c, .int .i64 n, .int .i64 pk], .agg #[.int .i64 t.a, .int .i64 t.b, .int .i64 t.c, .int .i64 t.d, .int .i64 t.e]] w fun e w' =>
      e = .returned (.tuple #[.agg #[.int .i64 cap, .slice A n c, .int .i64 n, .int .i64 pk], .agg #[.int .i64 0, .int .i64 0, .int .i64 0, .int .i64 0, .int .i64 0, .slice none 0 0], .int .i64 12]) ∧ Below w.heap.size w w' := by
  have hlen1 := fun W => refLen cap A n c n pk W (by omega) (by omega)
  rw [Int.sub_self] at hlen1
  have Hl1 := Lib.hid hlen1; clear hlen1
  go_enter Try.func33, Try.ntmps33
  go_wp2_with fail
  refine (Hl1.out _).mono ?_
  rintro e w1 ⟨rfl, rfl⟩
  go_wp2_with fail
  refine bodyPost_ret (v := .tuple #[.agg #[.int .i64 cap, .slice A n c, .int .i64 n, .int .i64 pk], .agg #[.int .i64 0, .int .i64 0, .int .i64 0, .int .i64 0, .int .i64 0, .slice none 0 0], .int .i64 12]) (by simp [results, Try.results33, go_sem, World.cell?_alloc_past]) rfl ⟨rfl, ?_⟩
  (focus (repeat' (first | (with_reducible exact Below.refl _ _) | (with_reducible assumption) | (with_reducible refine Below.setCell ?_ ?_ _) | (with_reducible refine Below.alloc ?_ ?_ _) | (with_reducible refine below_drewN ?_ _) | (with_reducible refine Below.drew ?_) | (with_reducible exact Nat.le_refl _) | omega | (simp; done) | (simp; omega))))

theorem refRecv_tag (cap : Int) (A : Option Addr) (ms : List Msg) (c r : Nat) (pk : Int) (t : Tg) (w : World) (h : MsgsRd w A ms) (hlt : r < ms.length) (hn : ms.length ≤ 100000000000) (hne : (msgAt ms r).tag ≠ t) :
    Calls Try.prog 33 #[.agg #[.int .i64 cap, .slice A ms.length c, .int .i64 r, .int .i64 pk], .agg #[.int .i64 t.a, .int .i64 t.b, .int .i64 t.c, .int .i64 t.d, .int .i64 t.e]] w fun e w' =>
      e = .returned (.tuple #[.agg #[.int .i64 cap, .slice A ms.length c, .int .i64 r, .int .i64 pk], .agg #[.int .i64 0, .int .i64 0, .int .i64 0, .int .i64 0, .int .i64 0, .slice none 0 0], .int .i64 10]) ∧ Below w.heap.size w w' := by
  obtain ⟨t0, t1, t2, t3, t4⟩ := t
  obtain ⟨b, o, B, d, hA, x1, hB⟩ := h.at_ r hlt
  have hlen1 := fun W => refLen cap A ms.length c r pk W (by omega) (by omega)
  obtain ⟨D, hD⟩ : ∃ D : Int, (ms.length : Int) - r = D := ⟨_, rfl⟩
  rw [hD] at hlen1
  have hD0 : (D == 0) = false := by simp; omega
  generalize msgAt ms r = m at *
  obtain ⟨⟨u0, u1, u2, u3, u4⟩, zs⟩ := m
  obtain ⟨p0, p1, p2, p3, p4, p5⟩ := x1
  dsimp only at p0 p1 p2 p3 p4 p5 hB hne ⊢
  have hb : b < w.heap.size := lt_of_cell p0
  have hb1 : b < w.heap.size + 1 := by omega
  have hb2 : b < w.heap.size + 1 + 1 := by omega
  have hb3 : b < w.heap.size + 1 + 1 + 1 := by omega
  have hb4 : b < w.heap.size + 1 + 1 + 1 + 1 := by omega
  subst hA
  have Hl1 := Lib.hid hlen1; have HD := Lib.hid hD; clear hlen1 hD h
  have Hne := Lib.hid hne; clear hne
  go_enter Try.func33, Try.ntmps33
  go_wp2_with fail
  refine (Hl1.out _).mono ?_
  rintro e w1 ⟨rfl, rfl⟩
  go_wp2_with fail
  · exact absurd (by simp only [*]) Hne.out
  all_goals
    refine bodyPost_ret (v := .tuple #[.agg #[.int .i64 cap, .slice (some ⟨b, o, none⟩) ms.length c, .int .i64 r, .int .i64 pk], .agg #[.int .i64 0, .int .i64 0, .int .i64 0, .int .i64 0, .int .i64 0, .slice none 0 0], .int .i64 10]) (by simp [results, Try.results33, go_sem, World.cell?_alloc_past]) rfl ⟨rfl, ?_⟩
    (focus (repeat' (first | (with_reducible exact Below.refl _ _) | (with_reducible assumption) | (with_reducible refine Below.setCell ?_ ?_ _) | (with_reducible refine Below.alloc ?_ ?_ _) | (with_reducible refine below_drewN ?_ _) | (with_reducible refine Below.drew ?_) | (with_reducible exact Nat.le_refl _) | omega | (simp; done) | (simp; omega))))

theorem refRecv_ok (V : World) (cap : Int) (A : Option Addr) (ms : List Msg) (c r : Nat) (pk : Int) (t : Tg) (w : World) (h : MsgsIn V w A ms) (hlt : r < ms.length) (hn : ms.length ≤ 100000000000) (heq : (msgAt ms r).tag = t) :
    Calls Try.prog 33 #[.agg #[.int .i64 cap, .slice A ms.length c, .int .i64 r, .int .i64 pk], .agg #[.int .i64 t.a, .int .i64 t.b, .int .i64 t.c, .int .i64 t.d, .int .i64 t.e]] w fun e w' =>
      ∃ A' c', e = .returned (.tuple #[.agg #[.int .i64 cap, .slice A ms.length c, .int .i64 ((r + 1 : Nat) : Int), .int .i64 pk], .agg #[.int .i64 t.a, .int .i64 t.b, .int .i64 t.c, .int .i64 t.d, .int .i64 t.e, .slice A' (msgAt ms r).vals.length c'], .int .i64 0]) ∧ Rd V A' (nums .i64 (msgAt ms r).vals) ∧ Below w.heap.size w w' := by
  subst heq
  obtain ⟨b, o, B, d, hA, x1, hB⟩ := h.at_ r hlt
  have hlen1 := fun W => refLen cap A ms.length c r pk W (by omega) (by omega)
  obtain ⟨D, hD⟩ : ∃ D : Int, (ms.length : Int) - r = D := ⟨_, rfl⟩
  rw [hD] at hlen1
  have hD0 : (D == 0) = false := by simp; omega
  generalize msgAt ms r = m at *
  obtain ⟨⟨u0, u1, u2, u3, u4⟩, zs⟩ := m
  obtain ⟨p0, p1, p2, p3, p4, p5⟩ := x1
  dsimp only at p0 p1 p2 p3 p4 p5 hB ⊢
  have hb : b < w.heap.size := lt_of_cell p0
  have hb1 : b < w.heap.size + 1 := by omega
  have hb2 : b < w.heap.size + 1 + 1 := by omega
  have hb3 : b < w.heap.size + 1 + 1 + 1 := by omega
  have hb4 : b < w.heap.size + 1 + 1 + 1 + 1 := by omega
  subst hA
  have Hl1 := Lib.hid hlen1; have HD := Lib.hid hD; clear hlen1 hD h
  go_enter Try.func33, Try.ntmps33
  go_wp2_with fail
  refine (Hl1.out _).mono ?_
  rintro e w1 ⟨rfl, rfl⟩
  go_wp2_with fail
  go_region
  all_goals go_wp2_with fail
  all_goals
    refine bodyPost_ret (v := .tuple #[.agg #[.int .i64 cap, .slice (some ⟨b, o, none⟩) ms.length c, .int .i64 ((r : Int) + 1), .int .i64 pk], .agg #[.int .i64 u0, .int .i64 u1, .int .i64 u2, .int .i64 u3, .int .i64 u4, .slice B zs.length d], .int .i64 0]) (by simp [results, Try.results33, go_sem, World.cell?_alloc_past]) rfl ⟨B, d, by rw [Int.natCast_add]; rfl, hB, ?_⟩
    (focus (repeat' (first | (with_reducible exact Below.refl _ _) | (with_reducible assumption) | (with_reducible refine Below.setCell ?_ ?_ _) | (with_reducible refine Below.alloc ?_ ?_ _) | (with_reducible refine below_drewN ?_ _) | (with_reducible refine Below.drew ?_) | (with_reducible exact Nat.le_refl _) | omega | (simp; done) | (simp; omega))))

end Go.Proofs.Ytpoeppehijhnnaa
