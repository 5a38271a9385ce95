/- The walk of Send, where the ring is full: the message takes an old place. -/
import Derived.Test.YtpoeppehijhnnaaLinkS0
namespace Go.Proofs.Ytpoeppehijhnnaa
open Go.RowKit

set_option maxHeartbeats 1600000 in
theorem linkSend_store (base b : Nat) (g : Option Nat) (s : LSt) (t : Tg) (A : Option Addr) (zs : List Int) (c : Nat) (w : World) (h : LinkAt w base b g s) (hroom : s.msgs.length < s.recv + s.cap) (hcase : s.cap ≤ s.msgs.length) (hmany : s.msgs.length < 100000000000)
    (hbase : base ≤ w.heap.size) (hA : Rd w A (nums .i64 zs)) (hzl : zs.length ≤ 17592186043904) :
    Calls Try.prog 24 #[.pointer (some ⟨b, 0, none⟩), .agg #[.int .i64 t.a, .int .i64 t.b, .int .i64 t.c, .int .i64 t.d, .int .i64 t.e, .slice A zs.length c]] w fun e w' => e = .returned (.int .i64 0) ∧
      ∃ g', LinkAt w' base b g' { s with msgs := s.msgs ++ [⟨t, zs⟩], peak := max s.peak (s.msgs.length + 1 - s.recv) } ∧ Keep (linkS b g) w w' ∧ (g' = g ∨ ∃ k, g' = some k ∧ w.heap.size ≤ k) := by
  obtain ⟨t0, t1, t2, t3, t4⟩ := t
  have H := Lib.hid h
  obtain ⟨ok, ring, rows, hc, hown, hg, hrl, hr6, hm⟩ := h
  obtain ⟨RA, rc, rfl, hrc⟩ := own_form hown
  have ok1 := ok.cap1
  have ok2 := ok.cap2
  have ok3 := ok.rs
  have ok5 := ok.pk
  have hl := fun o n => linkLen b _ _ _ _ _ _ (show LinkCells ((w.alloc o).drewN n) _ _ _ _ _ _ from hc.alloc o) ok3 (by omega)
  obtain ⟨i, hie⟩ : ∃ i, s.msgs.length % s.cap = i := ⟨_, rfl⟩
  obtain ⟨L, hL⟩ : ∃ L, min s.msgs.length s.cap = L := ⟨_, rfl⟩
  rw [hL] at hrc hown hrl hc
  have c1 := hc.c1
  have hb := lt_of_block hc
  have hne : (((s.msgs.length : Int) - (s.recv : Int)) == (s.cap : Int)) = false := by simp; omega
  have hcp := fun W hW => copied_any A zs c W hW hzl
  obtain ⟨D, hD⟩ : ∃ D : Int, D = (s.msgs.length : Int) - (s.recv : Int) := ⟨_, rfl⟩
  rw [← hD] at hne hl
  have hDb : 0 ≤ D ∧ D < s.cap := by omega
  have hLi : i < L := by rw [← hL, ← hie]; have := Nat.mod_lt s.msgs.length (show 0 < s.cap by omega); omega
  have Hl := Lib.hid hl; have Hok := Lib.hid ok; have Hc := Lib.hid hc; have Hown := Lib.hid hown; have Hg := Lib.hid hg; have Hrl := Lib.hid hrl; have Hr6 := Lib.hid hr6; have Hm := Lib.hid hm
  have Hie := Lib.hid hie; have HL := Lib.hid hL; have Hcp := Lib.hid hcp; have HD := Lib.hid hD
  clear hl hc ok hown hg hrl hr6 hm hie hL hcp hD
  go_enter Try.func24, Try.ntmps24
  go_wp2_with fail
  go_quiet ((go_at_call 23; exact Calls.quiet_of (Hl.out _ _)))
  clear hne
  go_wp2_with fail
  refine (Hcp.out _ ((hA.alloc _).drewN _)).mono ?_
  rintro e w1 ⟨v1, rfl, hown1, hb1⟩
  obtain ⟨A1, c1', rfl, hcc⟩ := own_form hown1
  have hbox : w1.heap[w.heap.size]? = some (.cells #[.int .i64 t0, .int .i64 t1, .int .i64 t2, .int .i64 t3, .int .i64 t4, .slice A zs.length c] 37 (0, 0)) := by
    rw [hb1.block _ (by simp)]
    exact heap_alloc_new w _
  have hs1 := lt_of_block hbox
  have p0 : w1.cell? ⟨w.heap.size, 0, none⟩ = some (.int .i64 t0) := cell_of_row w1 _ 0 _ _ _ hbox
  have p1 : w1.cell? ⟨w.heap.size, 1, none⟩ = some (.int .i64 t1) := cell_of_row w1 _ 1 _ _ _ hbox
  have p2 : w1.cell? ⟨w.heap.size, 2, none⟩ = some (.int .i64 t2) := cell_of_row w1 _ 2 _ _ _ hbox
  have p3 : w1.cell? ⟨w.heap.size, 3, none⟩ = some (.int .i64 t3) := cell_of_row w1 _ 3 _ _ _ hbox
  have p4 : w1.cell? ⟨w.heap.size, 4, none⟩ = some (.int .i64 t4) := cell_of_row w1 _ 4 _ _ _ hbox
  have p5 : w1.cell? ⟨w.heap.size, 5, none⟩ = some (.slice A zs.length c) := cell_of_row w1 _ 5 _ _ _ hbox
  have pf := fun j => frozen_of_row w1 _ j _ _ hbox
  have hW1 : Below w.heap.size w w1 := (below_drewN ((Below.refl _ w).alloc (Nat.le_refl _) _) _).trans (hb1.mono (by simp))
  have hc1 := Hc.out.same (hW1.block b hb)
  have hl1 := lt_of_block hc1
  have k0 := hc1.c0
  have k2 := hc1.c2
  have k3 := hc1.c3
  have k4 := hc1.c4
  have f2 := hc1.free 2
  have f4 := hc1.free 4
  have f0 := hc1.free 0
  have hbn : ¬ (b = w.heap.size) := by omega
  have hbn' : ¬ (w.heap.size = b) := by omega
  have hpl := fun W hW => linkPlaceN b (.slice RA L rc) s.cap s.msgs.length s.recv s.peak s.msgs.length i W hW Hok.out.cap1 Hok.out.cap2 Hie.out
  have Hc1 := Lib.hid hc1; have Hb1 := Lib.hid hb1; have Hown1 := Lib.hid hown1; have Hpl := Lib.hid hpl
  clear hc1 hb1 hown1 hpl hbox
  go_wp2_with fail
  refine (Hpl.out _ (Hc1.out.same (Below.heap_setCell w1 ⟨w.heap.size, 5, none⟩ _ b hbn))).mono ?_
  rintro e w2 ⟨rfl, rfl⟩
  obtain ⟨gg, rc', hRA, hgb, hgl⟩ := Hown.out.form (by omega)
  obtain ⟨rfl, rfl⟩ : RA = some ⟨gg, 0, none⟩ ∧ rc = rc' := by simp only [Value.slice.injEq] at hRA; exact ⟨hRA.1, hRA.2.2⟩
  clear hRA
  obtain rfl : g = some gg := Hg.out.symm
  have hown2 := own_below Hown.out ((Below.mono hW1 (Nat.le_refl _)))
  have hrow : ∀ t, t < 6 → ∃ x, w1.cell? ⟨gg, i * 6 + t, none⟩ = some x := fun t ht => by
    have h6 : i * 6 + t < L * 6 := by omega
    rw [hown2.cellAt _ h6]
    exact ⟨_, List.getElem?_eq_getElem (by rw [hown2.1]; exact h6)⟩
  obtain ⟨x0, q0⟩ := hrow 0 (by omega)
  obtain ⟨x1, q1⟩ := hrow 1 (by omega)
  obtain ⟨x2, q2⟩ := hrow 2 (by omega)
  obtain ⟨x3, q3⟩ := hrow 3 (by omega)
  obtain ⟨x4, q4⟩ := hrow 4 (by omega)
  obtain ⟨x5, q5⟩ := hrow 5 (by omega)
  rw [Nat.add_zero] at q0
  have qf := fun j => hown2.frozenAt j
  have hgn : ¬ (gg = w.heap.size) := by omega
  have hgn' : ¬ (w.heap.size = gg) := by omega
  have hgbn : ¬ (gg = b) := fun e => by
    subst e
    have h1 := Hc1.out.c1
    rcases Hown.out.2 with ⟨h0, _⟩ | ⟨g2, cap, cur, hv, _, hg2, _⟩
    · cases h0
    · have e2 : g2 = gg := by simp only [Value.slice.injEq, Option.some.injEq, Addr.mk.injEq] at hv; exact hv.1.1.symm
      subst e2
      have h2 := Hc.out
      unfold LinkCells at h2
      rw [h2] at hg2
      injection hg2 with hg2
      injection hg2 with _ hg2
      exact absurd hg2 (by decide)
  have hgbn' : ¬ (b = gg) := fun e => hgbn e.symm
  clear hrow
  have Hown2 := Lib.hid hown2; clear hown2
  go_wp2_with fail
  go_region_held3 (fun w' => w'.cell? ⟨b, 0, none⟩ = some (.slice (some ⟨gg, 0, none⟩) L rc) ∧ w'.cell? ⟨w.heap.size, 0, none⟩ = some (.int .i64 t0) ∧ w'.cell? ⟨w.heap.size, 1, none⟩ = some (.int .i64 t1) ∧ w'.cell? ⟨w.heap.size, 2, none⟩ = some (.int .i64 t2) ∧ w'.cell? ⟨w.heap.size, 3, none⟩ = some (.int .i64 t3) ∧
    w'.cell? ⟨w.heap.size, 4, none⟩ = some (.int .i64 t4) ∧ w'.cell? ⟨w.heap.size, 5, none⟩ = some (.slice A1 zs.length c1')) (simp [go_sem, *]) ((fail))
  go_wp2_with fail
  have hwr : IntKind.i64.wrap ((s.msgs.length : Int) + 1) = (s.msgs.length : Int) + 1 := IntWalk.i64_in _ (by omega)
  go_region
  clear hwr
  go_wp2_with fail
  have hle : 0 ≤ (s.recv : Int) ∧ (s.recv : Int) ≤ (s.msgs.length : Int) + 1 ∧ (s.msgs.length : Int) + 1 ≤ 17592186043904 := by omega
  go_region_with ((go_at_call 23; refine (linkLenC b ((s.msgs.length : Int) + 1) s.recv _ (by simp [go_sem, *]) (by simp [go_sem, *]) hle).mono ?_; rintro e w' ⟨rfl, n', rfl⟩))
  have hres := Hown1.out
  all_goals go_wp2_with fail
  all_goals go_ret
  all_goals
    have hK1 : Keep (linkS b (some gg)) w w1 := Keep.below hW1
    have hi2 : i < rows.length := by rw [Hrl.out]; exact hLi
    have hLm : L = min (s.msgs.length + 1) s.cap := by have := HL.out; omega
    refine ⟨rfl, some gg, ?_, by (focus (repeat' (first | (with_reducible exact Keep.refl _ _) | (with_reducible assumption) | (with_reducible refine Keep.setCell ?_ _ ?_ _) | (with_reducible refine Keep.alloc ?_ _) | (with_reducible refine Keep.drewN ?_ _) | (with_reducible refine Keep.drew ?_) | (with_reducible exact Or.inr (linkS_b _ _)) | (with_reducible exact Or.inr (linkS_g _ _)) | (refine Or.inr ?_; first | rfl | (simp; done) | omega) | (refine Or.inl ?_; first | omega | (simp; done) | (simp; omega))))), .inl rfl⟩
    refine link_send_end (A1 := A1) (c1 := c1') (g := some gg) (rows' := rows.set i [.int .i64 t0, .int .i64 t1, .int .i64 t2, .int .i64 t3, .int .i64 t4, .slice A1 zs.length c1']) (ring' := .slice (some ⟨gg, 0, none⟩) L rc) Hok.out Hc.out (HL.out ▸ Hown.out) rfl Hm.out hroom hmany ⟨t0, t1, t2, t3, t4⟩ zs hzl (by (focus (repeat' (first | (with_reducible exact Keep.refl _ _) | (with_reducible assumption) | (with_reducible refine Keep.setCell ?_ _ ?_ _) | (with_reducible refine Keep.alloc ?_ _) | (with_reducible refine Keep.drewN ?_ _) | (with_reducible refine Keep.drew ?_) | (with_reducible exact Or.inr (linkS_b _ _)) | (with_reducible exact Or.inr (linkS_g _ _)) | (refine Or.inr ?_; first | rfl | (simp; done) | omega) | (refine Or.inl ?_; first | omega | (simp; done) | (simp; omega)))))) (P := max s.peak (s.msgs.length + 1 - s.recv)) rfl (by (focus (repeat' (first | (with_reducible exact Hc1.out) | (with_reducible refine LinkCells.drew ?_) | (with_reducible refine LinkCells.drewN ?_ _) | (with_reducible refine LinkCells.alloc ?_ _) | (with_reducible refine LinkCells.set0 (ring := .slice RA L rc) ?_ _) | (with_reducible refine LinkCells.set2 (sent := s.msgs.length) ?_ _ _ ?_) | (with_reducible refine LinkCells.set4 (peak := s.peak) ?_ _ _ ?_) | (with_reducible refine LinkCells.far ?_ _ _ ?_) | omega | (push_cast; omega))))) ?_ rfl ?_ ?_ ?_ ?_ ?_
    · rw [← hLm, ← flatten_set _ _ _ _ _ _ _ rfl rows i Hr6.out hi2]
      (focus (repeat' (first | (with_reducible exact Hown2.out) | (with_reducible refine World.ownsRow.drew ?_) | (with_reducible refine own_drewN ?_ _) | (with_reducible refine World.ownsRow.alloc ?_ _) | (with_reducible refine (World.ownsRow.stored ?_ _ _).1) | (with_reducible refine ownsRow_setCell_other ?_ ?_ _) | (with_reducible assumption) | (simp [Value.ownBlock]; done) | (simp [Value.ownBlock]; omega))))
    · rw [List.length_set, Hrl.out, hLm]
    · intro r hr
      rcases List.mem_or_eq_of_mem_set hr with hr | rfl
      · exact Hr6.out r hr
      · rfl
    · intro j h1 h2
      exact rowAt_set_other _ _ _ _ fun e => mod_ne h1 h2 hroom (e.symm.trans Hie.out.symm)
    · rw [Hie.out]; exact rowAt_set_same _ _ _ hi2
    · refine Keep.own (S := fun k => k ≤ w.heap.size) (w := w1) ?_ (own_base Hown1.out (by simp; omega)) ?_
      · (focus (repeat' (first | (with_reducible exact Keep.refl _ _) | (with_reducible assumption) | (with_reducible refine Keep.setCell ?_ _ ?_ _) | (with_reducible refine Keep.alloc ?_ _) | (with_reducible refine Keep.drewN ?_ _) | (with_reducible refine Keep.drew ?_) | (with_reducible exact Or.inr (linkS_b _ _)) | (with_reducible exact Or.inr (linkS_g _ _)) | (refine Or.inr ?_; first | rfl | (simp; done) | omega) | (refine Or.inl ?_; first | omega | (simp; done) | (simp; omega)))))
        all_goals (dsimp only; omega)
      · intro k hk
        have := (Hown1.out.lt k hk).1
        simp at this ⊢; omega
end Go.Proofs.Ytpoeppehijhnnaa
