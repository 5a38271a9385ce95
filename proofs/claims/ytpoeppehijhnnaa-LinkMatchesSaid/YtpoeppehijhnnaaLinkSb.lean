/- The walk of Send, where the ring grows. -/
import Derived.Test.YtpoeppehijhnnaaLinkS0
namespace Go.Proofs.Ytpoeppehijhnnaa
open Go.RowKit

set_option maxHeartbeats 1600000 in
theorem linkSend_app (base b : Nat) (g : Option Nat) (s : LSt) (t : Tg) (A : Option Addr) (zs : List Int) (c : Nat) (w : World) (h : LinkAt w base b g s) (hroom : s.msgs.length < s.recv + s.cap) (hcase : s.msgs.length < s.cap) (hmany : s.msgs.length < 100000000000)
    (hbase : base ≤ w.heap.size) (hA : Rd w A (nums .i64 zs)) (hzl : zs.length ≤ 17592186043904) :
    Calls Try.prog 24 #[.pointer (some ⟨b, 0, none⟩), .agg #[.int .i64 t.a, .int .i64 t.b, .int .i64 t.c, .int .i64 t.d, .int .i64 t.e, .slice A zs.length c]] w fun e w' => e = .returned (.int .i64 0) ∧
      ∃ g', LinkAt w' base b g' { s with msgs := s.msgs ++ [⟨t, zs⟩], peak := max s.peak (s.msgs.length + 1 - s.recv) } ∧ Keep (linkS b g) w w' ∧ (g' = g ∨ ∃ k, g' = some k ∧ w.heap.size ≤ k) := by
  obtain ⟨t0, t1, t2, t3, t4⟩ := t
  have H := Lib.hid h
  obtain ⟨ok, ring, rows, hc, hown, hg, hrl, hr6, hm⟩ := h
  obtain ⟨RA, rc, rfl, hrc⟩ := own_form hown
  have ok1 := ok.cap1
  have ok2 := ok.cap2
  have ok3 := ok.rs
  have ok5 := ok.pk
  have hl := fun o n => linkLen b _ _ _ _ _ _ (show LinkCells ((w.alloc o).drewN n) _ _ _ _ _ _ from hc.alloc o) ok3 (by omega)
  obtain ⟨i, hie⟩ : ∃ i, s.msgs.length % s.cap = i := ⟨_, rfl⟩
  obtain ⟨L, hL⟩ : ∃ L, min s.msgs.length s.cap = L := ⟨_, rfl⟩
  rw [hL] at hrc hown hrl hc hg
  have c1 := hc.c1
  have hb := lt_of_block hc
  have hne : (((s.msgs.length : Int) - (s.recv : Int)) == (s.cap : Int)) = false := by simp; omega
  have hcp := fun W hW => copied_any A zs c W hW hzl
  obtain ⟨D, hD⟩ : ∃ D : Int, D = (s.msgs.length : Int) - (s.recv : Int) := ⟨_, rfl⟩
  rw [← hD] at hne hl
  have hDb : 0 ≤ D ∧ D < s.cap := by omega
  obtain rfl : i = L := by rw [← hL, ← hie, Nat.mod_eq_of_lt hcase]; omega
  have Hl := Lib.hid hl; have Hok := Lib.hid ok; have Hc := Lib.hid hc; have Hown := Lib.hid hown; have Hg := Lib.hid hg; have Hrl := Lib.hid hrl; have Hr6 := Lib.hid hr6; have Hm := Lib.hid hm
  have Hie := Lib.hid hie; have HL := Lib.hid hL; have Hcp := Lib.hid hcp; have HD := Lib.hid hD
  clear hl hc ok hown hg hrl hr6 hm hie hL hcp hD
  go_enter Try.func24, Try.ntmps24
  go_wp2_with fail
  go_quiet ((go_at_call 23; exact Calls.quiet_of (Hl.out _ _)))
  clear hne
  go_wp2_with fail
  refine (Hcp.out _ ((hA.alloc _).drewN _)).mono ?_
  rintro e w1 ⟨v1, rfl, hown1, hb1⟩
  obtain ⟨A1, c1', rfl, hcc⟩ := own_form hown1
  have hbox : w1.heap[w.heap.size]? = some (.cells #[.int .i64 t0, .int .i64 t1, .int .i64 t2, .int .i64 t3, .int .i64 t4, .slice A zs.length c] 37 (0, 0)) := by
    rw [hb1.block _ (by simp)]
    exact heap_alloc_new w _
  have hs1 := lt_of_block hbox
  have p0 : w1.cell? ⟨w.heap.size, 0, none⟩ = some (.int .i64 t0) := cell_of_row w1 _ 0 _ _ _ hbox
  have p1 : w1.cell? ⟨w.heap.size, 1, none⟩ = some (.int .i64 t1) := cell_of_row w1 _ 1 _ _ _ hbox
  have p2 : w1.cell? ⟨w.heap.size, 2, none⟩ = some (.int .i64 t2) := cell_of_row w1 _ 2 _ _ _ hbox
  have p3 : w1.cell? ⟨w.heap.size, 3, none⟩ = some (.int .i64 t3) := cell_of_row w1 _ 3 _ _ _ hbox
  have p4 : w1.cell? ⟨w.heap.size, 4, none⟩ = some (.int .i64 t4) := cell_of_row w1 _ 4 _ _ _ hbox
  have p5 : w1.cell? ⟨w.heap.size, 5, none⟩ = some (.slice A zs.length c) := cell_of_row w1 _ 5 _ _ _ hbox
  have pf := fun j => frozen_of_row w1 _ j _ _ hbox
  have hW1 : Below w.heap.size w w1 := (below_drewN ((Below.refl _ w).alloc (Nat.le_refl _) _) _).trans (hb1.mono (by simp))
  have hc1 := Hc.out.same (hW1.block b hb)
  have hl1 := lt_of_block hc1
  have k0 := hc1.c0
  have k2 := hc1.c2
  have k3 := hc1.c3
  have k4 := hc1.c4
  have f2 := hc1.free 2
  have f4 := hc1.free 4
  have f0 := hc1.free 0
  have hbn : ¬ (b = w.heap.size) := by omega
  have hbn' : ¬ (w.heap.size = b) := by omega
  have hpl := fun W hW => linkPlaceN b (.slice RA i rc) s.cap s.msgs.length s.recv s.peak s.msgs.length i W hW Hok.out.cap1 Hok.out.cap2 Hie.out
  have Hc1 := Lib.hid hc1; have Hb1 := Lib.hid hb1; have Hown1 := Lib.hid hown1; have Hpl := Lib.hid hpl
  clear hc1 hb1 hown1 hpl hbox
  go_wp2_with fail
  refine (Hpl.out _ (Hc1.out.same (Below.heap_setCell w1 ⟨w.heap.size, 5, none⟩ _ b hbn))).mono ?_
  rintro e w2 ⟨rfl, rfl⟩
  have hown2 := own_below Hown.out (Below.mono hW1 (Nat.le_refl _))
  have Hown2 := Lib.hid hown2; clear hown2
  have hrb : (Value.slice RA i rc).ownBlock ≠ some w.heap.size := fun e => by have := (Hown.out.lt _ e).2; omega
  have hrb2 := ring_ne Hc.out Hown.out
  have hi3 : i ≤ 1048576 := by have := HL.out; omega
  go_wp2_with fail
  go_region_law ((refine step_app et_msgs rfl (.tmp 47) (.tmp 49) rfl base (.slice RA i rc) i (List.flatten rows) rfl ?_ (some ⟨w1.heap.size, 0, none⟩) 1 1 [.int .i64 t0, .int .i64 t1, .int .i64 t2, .int .i64 t3, .int .i64 t4, .slice A1 zs.length c1'] rfl ?_ rfl ?_ ?_ ?_ ?_ ?_; ((focus (repeat' (first | (with_reducible exact Hown2.out) | (with_reducible refine World.ownsRow.drew ?_) | (with_reducible refine own_drewN ?_ _) | (with_reducible refine World.ownsRow.alloc ?_ _) | (with_reducible refine (World.ownsRow.stored ?_ _ _).1) | (with_reducible refine ownsRow_setCell_other ?_ ?_ _) | (with_reducible assumption) | (simp [Value.ownBlock]; done) | (simp [Value.ownBlock]; omega))))); exact Rd.drew (rd_newN _ _ _ _ (by simp)); (intro u hu; simp at hu; rcases hu with rfl | rfl | rfl | rfl | rfl | rfl <;> rfl); omega; (unfold maxLen; omega); (simp; omega); (intro A2 c2 w2 hown2 hbel2 hgrow2 hat2; have hblk := hgrow2.block b (by first | (simp; done) | (simp; omega)) (fun e => hrb2 e.symm); have hc2 : LinkCells w2 b (.slice RA i rc) s.cap s.msgs.length s.recv s.peak := (by refine LinkCells.same ?_ hblk; (focus (repeat' (first | (with_reducible exact Hc1.out) | (with_reducible refine LinkCells.drew ?_) | (with_reducible refine LinkCells.drewN ?_ _) | (with_reducible refine LinkCells.alloc ?_ _) | (with_reducible refine LinkCells.set0 (ring := .slice RA L rc) ?_ _) | (with_reducible refine LinkCells.set2 (sent := s.msgs.length) ?_ _ _ ?_) | (with_reducible refine LinkCells.set4 (peak := s.peak) ?_ _ _ ?_) | (with_reducible refine LinkCells.far ?_ _ _ ?_) | omega | (push_cast; omega))))); have kk0 := hc2.c0; have ff0 := hc2.free 0; have kk2 := hc2.c2; have kk3 := hc2.c3; have kk4 := hc2.c4; have ff2 := hc2.free 2; have ff4 := hc2.free 4; have Hbel2 := Lib.hid hbel2; have Hgrow2 := Lib.hid hgrow2; have Hat2 := Lib.hid hat2; have Hc2 := Lib.hid hc2; have HO2 := Lib.hid hown2; clear hbel2 hgrow2 hat2 hc2 hown2 hblk)))
  all_goals go_wp2_with fail
  all_goals have hwr : IntKind.i64.wrap ((s.msgs.length : Int) + 1) = (s.msgs.length : Int) + 1 := IntWalk.i64_in _ (by omega)
  all_goals go_region
  all_goals clear hwr
  all_goals go_wp2_with fail
  all_goals have hle : 0 ≤ (s.recv : Int) ∧ (s.recv : Int) ≤ (s.msgs.length : Int) + 1 ∧ (s.msgs.length : Int) + 1 ≤ 17592186043904 := by omega
  all_goals go_region_with ((go_at_call 23; refine (linkLenC b ((s.msgs.length : Int) + 1) s.recv _ (by simp [go_sem, *]) (by simp [go_sem, *]) hle).mono ?_; rintro e w' ⟨rfl, n', rfl⟩))
  all_goals go_wp2_with fail
  all_goals go_ret
  all_goals
    have hX2 := ring_ne Hc2.out HO2.out
    have hK1 : Keep (linkS b g) w w1 := Keep.below hW1
    have hK2 : Keep (linkS b g) w w2 := Keep.grown (by (focus (repeat' (first | (with_reducible exact Keep.refl _ _) | (with_reducible assumption) | (with_reducible refine Keep.setCell ?_ _ ?_ _) | (with_reducible refine Keep.alloc ?_ _) | (with_reducible refine Keep.drewN ?_ _) | (with_reducible refine Keep.drew ?_) | (with_reducible exact Or.inr (linkS_b _ _)) | (with_reducible exact Or.inr (linkS_g _ _)) | (refine Or.inr ?_; first | rfl | (simp; done) | omega) | (refine Or.inl ?_; first | omega | (simp; done) | (simp; omega)))))) Hgrow2.out (fun k hk => .inr (.inr (Hg.out.symm.trans hk)))
    have hLm : i + 1 = min (s.msgs.length + 1) s.cap := by have := HL.out; omega
    have hlast : rowAt (rows ++ [[.int .i64 t0, .int .i64 t1, .int .i64 t2, .int .i64 t3, .int .i64 t4, .slice A1 zs.length c1']]) i = [.int .i64 t0, .int .i64 t1, .int .i64 t2, .int .i64 t3, .int .i64 t4, .slice A1 zs.length c1'] := by
      rw [← Hrl.out]; exact rowAt_app_last _ _
    refine ⟨rfl, (Value.slice A2 (i + 1) c2).ownBlock, ?_, by (focus (repeat' (first | (with_reducible exact Keep.refl _ _) | (with_reducible assumption) | (with_reducible refine Keep.setCell ?_ _ ?_ _) | (with_reducible refine Keep.alloc ?_ _) | (with_reducible refine Keep.drewN ?_ _) | (with_reducible refine Keep.drew ?_) | (with_reducible exact Or.inr (linkS_b _ _)) | (with_reducible exact Or.inr (linkS_g _ _)) | (refine Or.inr ?_; first | rfl | (simp; done) | omega) | (refine Or.inl ?_; first | omega | (simp; done) | (simp; omega))))), ?_⟩
    · refine link_send_end (A1 := A1) (c1 := c1') (g := g) (rows' := rows ++ [[.int .i64 t0, .int .i64 t1, .int .i64 t2, .int .i64 t3, .int .i64 t4, .slice A1 zs.length c1']]) (ring' := .slice A2 (i + 1) c2) Hok.out Hc.out (HL.out ▸ Hown.out) Hg.out Hm.out hroom hmany ⟨t0, t1, t2, t3, t4⟩ zs hzl (by (focus (repeat' (first | (with_reducible exact Keep.refl _ _) | (with_reducible assumption) | (with_reducible refine Keep.setCell ?_ _ ?_ _) | (with_reducible refine Keep.alloc ?_ _) | (with_reducible refine Keep.drewN ?_ _) | (with_reducible refine Keep.drew ?_) | (with_reducible exact Or.inr (linkS_b _ _)) | (with_reducible exact Or.inr (linkS_g _ _)) | (refine Or.inr ?_; first | rfl | (simp; done) | omega) | (refine Or.inl ?_; first | omega | (simp; done) | (simp; omega)))))) (P := max s.peak (s.msgs.length + 1 - s.recv)) rfl (by (focus (repeat' (first | (with_reducible exact Hc2.out) | (with_reducible refine LinkCells.drew ?_) | (with_reducible refine LinkCells.drewN ?_ _) | (with_reducible refine LinkCells.alloc ?_ _) | (with_reducible refine LinkCells.set0 (ring := .slice RA i rc) ?_ _) | (with_reducible refine LinkCells.set2 (sent := s.msgs.length) ?_ _ _ ?_) | (with_reducible refine LinkCells.set4 (peak := s.peak) ?_ _ _ ?_) | (with_reducible refine LinkCells.far ?_ _ _ ?_) | omega | (push_cast; omega))))) ?_ rfl ?_ ?_ ?_ ?_ ?_
      · rw [← hLm, List.flatten_append, List.flatten_cons, List.flatten_nil, List.append_nil]
        (focus (repeat' (first | (with_reducible exact HO2.out) | (with_reducible refine World.ownsRow.drew ?_) | (with_reducible refine own_drewN ?_ _) | (with_reducible refine World.ownsRow.alloc ?_ _) | (with_reducible refine (World.ownsRow.stored ?_ _ _).1) | (with_reducible refine ownsRow_setCell_other ?_ ?_ _) | (with_reducible assumption) | (simp [Value.ownBlock]; done) | (simp [Value.ownBlock]; omega))))
      · rw [List.length_append, List.length_singleton, Hrl.out, hLm]
      · intro r hr
        rcases List.mem_append.1 hr with hr | hr
        · exact Hr6.out r hr
        · rw [List.mem_singleton.1 hr]; rfl
      · intro j h1 h2
        exact rowAt_app_left _ _ _ (by rw [Hrl.out, ← HL.out]; exact mod_lt_min h1 h2 (by omega) Hok.out.cap1)
      · rw [Hie.out]; exact hlast
      · have hk2 : Keep (fun k => k ≤ w.heap.size) w1 w2 := Keep.grown (by (focus (repeat' (first | (with_reducible exact Keep.refl _ _) | (with_reducible assumption) | (with_reducible refine Keep.setCell ?_ _ ?_ _) | (with_reducible refine Keep.alloc ?_ _) | (with_reducible refine Keep.drewN ?_ _) | (with_reducible refine Keep.drew ?_) | (with_reducible exact Or.inr (linkS_b _ _)) | (with_reducible exact Or.inr (linkS_g _ _)) | (refine Or.inr ?_; first | rfl | (simp; done) | omega) | (refine Or.inl ?_; first | omega | (simp; done) | (simp; omega)))))) Hgrow2.out (fun k hk => .inr (by have := (Hown.out.lt k hk).2; omega))
        refine Keep.own (S := fun k => k ≤ w.heap.size) (w := w1) ?_ (own_base Hown1.out (by simp; omega)) ?_
        · (focus (repeat' (first | (with_reducible exact Keep.refl _ _) | (with_reducible assumption) | (with_reducible refine Keep.setCell ?_ _ ?_ _) | (with_reducible refine Keep.alloc ?_ _) | (with_reducible refine Keep.drewN ?_ _) | (with_reducible refine Keep.drew ?_) | (with_reducible exact Or.inr (linkS_b _ _)) | (with_reducible exact Or.inr (linkS_g _ _)) | (refine Or.inr ?_; first | rfl | (simp; done) | omega) | (refine Or.inl ?_; first | omega | (simp; done) | (simp; omega)))))
          all_goals (dsimp only; omega)
        · intro k hk
          have := (Hown1.out.lt k hk).1
          simp at this ⊢; omega
    · rcases Hat2.out with h1 | h1
      · exact .inl (h1.trans Hg.out)
      · exact .inr ⟨_, h1, by simp; omega⟩
end Go.Proofs.Ytpoeppehijhnnaa
