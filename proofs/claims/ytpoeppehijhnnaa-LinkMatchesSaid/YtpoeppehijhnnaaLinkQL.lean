/- The walk of the law LinkMatches. -/
import Derived.Test.YtpoeppehijhnnaaLinkQ
namespace Go.Proofs.Ytpoeppehijhnnaa
open Go.RowKit Go.ChangeShapes Go.WideShapes Go.ChangeAt

/-- The loop's relation: k calls are done. -/
def MatRel (W w : World) (B b C k : Nat) : Prop := ∃ g A c s, BothAt W w B b g A c s s ∧ s.cap = C ∧ s.msgs.length ≤ k

theorem mat_start (W w : World) (C : Nat) (hC : 1 ≤ C ∧ C ≤ 1048576) (hB : Below (W.heap.size + 1) (W.alloc (.cells #[.slice none 0 0, .int .i64 (C : Int), .int .i64 0, .int .i64 0, .int .i64 0] 81)) w) :
    MatRel W (w.alloc (.cells #[.int .i64 (C : Int), .slice none 0 0, .int .i64 0, .int .i64 0] 46)) w.heap.size W.heap.size C 0 := by
  have hl := linkAt_new W W.heap.size C hC.1 hC.2
  have hs := hB.size
  simp at hs
  have hb' : Below (W.alloc (.cells #[.slice none 0 0, .int .i64 (C : Int), .int .i64 0, .int .i64 0, .int .i64 0] 81)).heap.size (W.alloc (.cells #[.slice none 0 0, .int .i64 (C : Int), .int .i64 0, .int .i64 0, .int .i64 0] 81)) w := by simpa using hB
  refine ⟨none, none, 0, LSt.new C, ⟨(hl.below hb').below ((Below.refl _ _).alloc (Nat.le_refl _) _), heap_alloc_new w _, MsgsIn.nil _ _ _, by simp [LSt.new], (fun a ha => by cases ha), ?_, Nat.le_refl _, by omega⟩, rfl, by simp [LSt.new]⟩
  exact (((Below.refl _ W).alloc (Nat.le_refl _) _).trans (hB.mono (by omega))).alloc (by omega) _

theorem mat_ne {w : World} {base B : Nat} {v : Value} {n : Nat} {xs : List Value} {cs' : Array Value} (h : w.ownsRow base 2 1 v n xs) (hB : w.heap[B]? = some (.cells cs' 46 (0, 0))) {k : Nat} (hk : v.ownBlock = some k) : k ≠ B := by
  rcases h.2 with ⟨hn, _⟩ | ⟨g, cap, cur, rfl, _, hg, _⟩
  · rw [hn] at hk; cases hk
  · obtain rfl : g = k := by simpa [Value.ownBlock] using hk
    exact blk_ne hg hB (by decide)
theorem mat_box5 {w : World} {b : Nat} {x0 x1 x2 x3 x4 : Value} {t : TypeId} (h : w.heap[b]? = some (.cells #[x0, x1, x2, x3, x4] t (0, 0))) (y0 y1 y2 y3 y4 : Value) :
    (((((w.setCell ⟨b, 0, none⟩ y0).setCell ⟨b, 1, none⟩ y1).setCell ⟨b, 2, none⟩ y2).setCell ⟨b, 3, none⟩ y3).setCell ⟨b, 4, none⟩ y4).heap[b]? = some (.cells #[y0, y1, y2, y3, y4] t (0, 0)) := by
  have h1 := heap_setCell_same w b 0 _ _ y0 h
  have h2 := heap_setCell_same _ b 1 _ _ y1 h1
  have h3 := heap_setCell_same _ b 2 _ _ y2 h2
  have h4 := heap_setCell_same _ b 3 _ _ y3 h3
  exact heap_setCell_same _ b 4 _ _ y4 h4
theorem mat_keep5 {w : World} {b : Nat} (y0 y1 y2 y3 y4 : Value) : Keep (fun i => i = b) w (((((w.setCell ⟨b, 0, none⟩ y0).setCell ⟨b, 1, none⟩ y1).setCell ⟨b, 2, none⟩ y2).setCell ⟨b, 3, none⟩ y3).setCell ⟨b, 4, none⟩ y4) := by
  refine Keep.setCell (S := fun i => i = b) ?_ _ (.inr rfl) _
  refine Keep.setCell (S := fun i => i = b) ?_ _ (.inr rfl) _
  refine Keep.setCell (S := fun i => i = b) ?_ _ (.inr rfl) _
  refine Keep.setCell (S := fun i => i = b) ?_ _ (.inr rfl) _
  exact Keep.setCell (S := fun i => i = b) (Keep.refl _ _) _ (.inr rfl) _

set_option maxRecDepth 100000 in
set_option maxHeartbeats 6400000 in
theorem matches_core (cap : Int) (A : Option Addr) (ops : List OpD) (c : Nat) (W : World) (hcap : 0 ≤ cap ∧ cap ≤ 255) (hA : SlRd rOp 8 W A ops) (hl : ops.length ≤ 17592186043904) :
    Calls Try.prog 8 #[.int .u8 cap, .slice A ops.length c] W fun e w' => e = .returned (.bool true) ∧ Below W.heap.size W w' := by
  obtain ⟨hc0, hc1⟩ := hcap
  obtain ⟨C, hC⟩ : ∃ C : Nat, 1 + cap = (C : Int) := ⟨(1 + cap).toNat, by omega⟩
  have hC1 : 1 ≤ (C : Int) ∧ (C : Int) ≤ 1048576 := by omega
  have hC2 : 1 ≤ C ∧ C ≤ 1048576 := by omega
  have hfew := fun w' (k : Below W.heap.size W w') => few18_any A ops c w' (hA.below stays_op k) hl
  have hnew := linkNew C W hC1
  have HC := Lib.hid hC; have Hfew := Lib.hid hfew; have Hnew := Lib.hid hnew; have HA := Lib.hid hA; clear hC hfew hnew hA hC1
  go_enter Try.func8, Try.ntmps8
  go_wp2_with fail
  rw [HC.out]
  refine Hnew.out.mono ?_
  rintro e w1 ⟨rfl, hw1⟩
  have hW1 : Below W.heap.size W w1 := by rw [hw1]; (focus (repeat' (first | (with_reducible exact Below.refl _ _) | (with_reducible assumption) | (with_reducible refine Below.setCell ?_ ?_ _) | (with_reducible refine Below.alloc ?_ ?_ _) | (with_reducible refine below_drewN ?_ _) | (with_reducible refine Below.drew ?_) | (with_reducible exact Nat.le_refl _) | omega | (simp; done) | (simp; omega))))
  have Hw1 := Lib.hid hw1; have HW1 := Lib.hid hW1; clear hw1 hW1 Hnew
  go_wp2_with fail
  refine (Hfew.out _ HW1.out).mono ?_
  rintro e w2 ⟨f, rfl, hf, hb2⟩
  have hb2' : Below (W.heap.size + 1) (W.alloc (.cells #[.slice none 0 0, .int .i64 (C : Int), .int .i64 0, .int .i64 0, .int .i64 0] 81)) w2 := by
    rw [Hw1.out] at hb2; simpa using hb2
  have hW2 : Below W.heap.size W w2 := HW1.out.trans (hb2.mono HW1.out.size)
  have HW2 := Lib.hid hW2; have Hb2 := Lib.hid hb2'; clear hW2 hb2' hb2 Hfew
  cases f with
  | false =>
    clear hf
    go_wp2_with fail
    refine (alive18 _).mono ?_
    rintro e w3 ⟨rfl, hb3⟩
    go_wp2_with fail
    go_ret
    exact ⟨rfl, HW2.out.trans (hb3.mono HW2.out.size)⟩
  | true =>
    have hn := hf rfl
    clear hf
    go_wp2_with fail
    go_loopw [40] (fun i wr => ∃ k : Nat, k ≤ ops.length ∧ i = .int .i64 k ∧ MatRel W wr w2.heap.size W.heap.size C k) (fun i _ => ops.length - (intOf i).toNat)
    case atStart => exact ⟨0, Nat.zero_le _, rfl, mat_start W w2 C hC2 Hb2.out⟩
    case round =>
      obtain ⟨k, hk, rfl, hR⟩ := hrel
      by_cases hlt : k < ops.length
      · obtain ⟨g, A1, c1, s, hB, hsc, hsl⟩ := hR
        obtain ⟨o, ho⟩ : ∃ o, ops[k]? = some o := ⟨_, List.getElem?_eq_getElem hlt⟩
        obtain ⟨b, f, V, d, hAe, hb, p0, p1, p2, p3, p4, p5, p6, p7, hol, hrv0⟩ := op_cells HA.out ho
        subst hAe
        have hq := fun j (u : Value) (h : W.cell? ⟨b, f + k * 8 + j, none⟩ = some u) => (hB.hW.cell (p := ⟨b, f + k * 8 + j, none⟩) hb).trans h
        have q0 := (hB.hW.cell (p := ⟨b, f + k * 8, none⟩) hb).trans p0
        have q1 := hq 1 _ p1
        have q2 := hq 2 _ p2
        have q3 := hq 3 _ p3
        have q4 := hq 4 _ p4
        have q5 := hq 5 _ p5
        have q6 := hq 6 _ p6
        have q7 := hq 7 _ p7
        clear p0 p1 p2 p3 p4 p5 p6 p7 hq
        obtain ⟨kind, ⟨⟨t0, t1, t2, t3, t4⟩, zs⟩, first⟩ := o
        dsimp only at q0 q1 q2 q3 q4 q5 q6 q7 hol hrv0
        have hbox := hB.hbox
        unfold RefBox at hbox
        have e0 := cell_of_row wr _ 0 _ _ _ hbox
        have e1 := cell_of_row wr _ 1 _ _ _ hbox
        have e2 := cell_of_row wr _ 2 _ _ _ hbox
        have e3 := cell_of_row wr _ 3 _ _ _ hbox
        have ef := fun j => frozen_of_row wr _ j _ _ hbox
        have hBs : w2.heap.size < wr.heap.size := lt_of_block hbox
        have hsm : s.msgs.length < 100000000000 := by omega
        have hok := hB.hL.ok
        have hrs := hok.rs
        have hcs := hok.cap2
        have HB := Lib.hid hB; have Hsc := Lib.hid hsc; have Ho := Lib.hid ho; have Hrv := Lib.hid hrv0; have Hbox := Lib.hid hbox
        clear hB hsc ho hrv0 hbox hok
        by_cases hk0 : kind = 0
        · subst hk0
          by_cases hroom : s.msgs.length < s.recv + s.cap
          · have hsend := fun w' (q : BothAt W w' w2.heap.size W.heap.size g A1 c1 s s) => refSend W s.cap A1 s.msgs c1 s.recv s.peak ⟨t0, t1, t2, t3, t4⟩ V zs d w' hrs (by omega) hroom q.hM Hrv.out
            have Hsend := Lib.hid hsend; clear hsend
            go_wp2_with fail
            refine (Hsend.out _ (HB.out.below ?_)).mono ?_
            · (focus (repeat' (first | (with_reducible exact Below.refl _ _) | (with_reducible assumption) | (with_reducible refine Below.setCell ?_ ?_ _) | (with_reducible refine Below.alloc ?_ ?_ _) | (with_reducible refine below_drewN ?_ _) | (with_reducible refine Below.drew ?_) | (with_reducible exact Nat.le_refl _) | omega | (simp; done) | (simp; omega))))
            rintro e w3 ⟨A', c', P, hP, rfl, ⟨hM, hc', hA'⟩, hb3⟩
            obtain ⟨N, hN⟩ : ∃ N, (s.msgs ++ [(⟨⟨t0, t1, t2, t3, t4⟩, zs⟩ : Msg)]).length = N := ⟨_, rfl⟩
            rw [hN]
            have hB3 : Below wr.heap.size wr w3 := by
              refine Below.trans ?_ (hb3.mono (by simp))
              (focus (repeat' (first | (with_reducible exact Below.refl _ _) | (with_reducible assumption) | (with_reducible refine Below.setCell ?_ ?_ _) | (with_reducible refine Below.alloc ?_ ?_ _) | (with_reducible refine below_drewN ?_ _) | (with_reducible refine Below.drew ?_) | (with_reducible exact Nat.le_refl _) | omega | (simp; done) | (simp; omega))))
            have hop3 := (hb3.block wr.heap.size (by simp)).trans (heap_alloc_new wr (.cells #[.int .i64 0, .int .i64 t0, .int .i64 t1, .int .i64 t2, .int .i64 t3, .int .i64 t4, .slice V zs.length d, .bool first] 59))
            have hbx3 := (hB3.block _ hBs).trans Hbox.out
            clear e0 e1 e2 e3 ef
            have e0 := cell_of_row w3 _ 0 _ _ _ hbx3
            have e1 := cell_of_row w3 _ 1 _ _ _ hbx3
            have e2 := cell_of_row w3 _ 2 _ _ _ hbx3
            have e3 := cell_of_row w3 _ 3 _ _ _ hbx3
            have ef := fun j => frozen_of_row w3 _ j _ _ hbx3
            have m0 := cell_of_row w3 _ 0 _ _ _ hop3
            have m1 := cell_of_row w3 _ 1 _ _ _ hop3
            have m2 := cell_of_row w3 _ 2 _ _ _ hop3
            have m3 := cell_of_row w3 _ 3 _ _ _ hop3
            have m4 := cell_of_row w3 _ 4 _ _ _ hop3
            have m5 := cell_of_row w3 _ 5 _ _ _ hop3
            have m6 := cell_of_row w3 _ 6 _ _ _ hop3
            have m7 := cell_of_row w3 _ 7 _ _ _ hop3
            have mf := fun j => frozen_of_row w3 _ j _ _ hop3
            have hs3 : wr.heap.size < w3.heap.size := lt_of_block hop3
            have hs4 : w2.heap.size < w3.heap.size := by omega
            have hs5 : w2.heap.size < w3.heap.size + 1 := by omega
            have hne1 : ¬ (w2.heap.size = wr.heap.size) := by omega
            have hne2 : ¬ (wr.heap.size = w2.heap.size) := by omega
            have hne3 : ¬ (w2.heap.size = w3.heap.size) := by omega
            have hsend2 := fun w' (q : BothAt W w' w2.heap.size W.heap.size g A' c' s (s.send ⟨⟨t0, t1, t2, t3, t4⟩, zs⟩)) => linkSend W.heap.size W.heap.size g s ⟨t0, t1, t2, t3, t4⟩ V zs d w' q.hL hroom hsm (by have := q.hW.size; omega) (Hrv.out.below q.hW) hol
            have h4 := box4_set (.int .i64 s.cap) (.slice A' N c') (.int .i64 s.recv) (.int .i64 P) hbx3
            have hbx4 : RefBox (((((w3.setCell ⟨w2.heap.size, 0, none⟩ (.int .i64 s.cap)).setCell ⟨w2.heap.size, 1, none⟩ (.slice A' N c')).setCell ⟨w2.heap.size, 2, none⟩ (.int .i64 s.recv)).setCell ⟨w2.heap.size, 3, none⟩ (.int .i64 P)).alloc (.cells #[.int .i64 s.cap, .slice A' N c', .int .i64 s.recv, .int .i64 P] 46)) w2.heap.size A' c' (s.send ⟨⟨t0, t1, t2, t3, t4⟩, zs⟩) := by
              unfold RefBox
              rw [show (s.send ⟨⟨t0, t1, t2, t3, t4⟩, zs⟩).msgs.length = N from hN, show (((s.send ⟨⟨t0, t1, t2, t3, t4⟩, zs⟩).peak : Nat) : Int) = P from hP.symm]
              exact (Below.heap_alloc _ _ _ (lt_of_block h4)).trans h4
            have hB4 := HB.out.refSent hB3 (by simp [LSt.send]) hM hc' (fun a ha => by have := hA' a ha; simp at this; omega) (by (focus (repeat' (first | (with_reducible exact Keep.refl _ _) | (with_reducible assumption) | (with_reducible refine Keep.setCell ?_ _ ?_ _) | (with_reducible refine Keep.alloc ?_ _) | (with_reducible refine Keep.drewN ?_ _) | (with_reducible refine Keep.drew ?_) | (with_reducible exact Or.inr (linkS_b _ _)) | (with_reducible exact Or.inr (linkS_g _ _)) | (refine Or.inr ?_; first | rfl | (simp; done) | omega) | (refine Or.inl ?_; first | omega | (simp; done) | (simp; omega)))))) hbx4
            have Hsend2 := Lib.hid hsend2; have HB4 := Lib.hid hB4; clear hsend2 hB4 h4 hbx4 hP hN hM hc' hA' hB3 hb3 hop3 hbx3 Hsend
            go_wp2_with fail
            with_reducible refine (Hsend2.out _ HB4.out).mono ?_
            rintro e w5 ⟨rfl, g5, hl5, hk5, hg5⟩
            have hB5 := HB4.out.link hk5 hl5 hg5
            have hbx5 := hB5.hbox
            unfold RefBox at hbx5
            clear e0 e1 e2 e3 ef
            have e0 := cell_of_row w5 _ 0 _ _ _ hbx5
            have e1 := cell_of_row w5 _ 1 _ _ _ hbx5
            have e2 := cell_of_row w5 _ 2 _ _ _ hbx5
            have e3 := cell_of_row w5 _ 3 _ _ _ hbx5
            have ef := fun j => frozen_of_row w5 _ j _ _ hbx5
            have hsame := hB5.same rfl
            have Hsame := Lib.hid hsame; have HB5 := Lib.hid hB5; clear hsame hB5 hbx5 hk5 hl5 hg5 HB4 Hsend2
            go_wp2_with fail
            refine Hsame.out.mono ?_
            rintro e w6 ⟨rfl, hb6⟩
            have HB6 := Lib.hid (HB5.out.below hb6); clear hb6 HB5
            go_wp2_with fail
            go_roundw
            case rel => exact ⟨k + 1, by omega, by go_num, g5, A', c', (s.send ⟨⟨t0, t1, t2, t3, t4⟩, zs⟩), HB6.out, Hsc.out, by simp [LSt.send]; omega⟩
            case measure => simp [intOf]; omega
          · have hsend := fun w' => refSend_full s.cap A1 s.msgs.length c1 s.recv s.peak #[.int .i64 t0, .int .i64 t1, .int .i64 t2, .int .i64 t3, .int .i64 t4, .slice V zs.length d] w' hrs (by omega) (by omega)
            have Hsend := Lib.hid hsend; clear hsend
            go_wp2_with fail
            refine (Hsend.out _).mono ?_
            rintro e w3 ⟨rfl, hb3⟩
            have hB3 : Below wr.heap.size wr w3 := by
              refine Below.trans ?_ (hb3.mono (by simp))
              (focus (repeat' (first | (with_reducible exact Below.refl _ _) | (with_reducible assumption) | (with_reducible refine Below.setCell ?_ ?_ _) | (with_reducible refine Below.alloc ?_ ?_ _) | (with_reducible refine below_drewN ?_ _) | (with_reducible refine Below.drew ?_) | (with_reducible exact Nat.le_refl _) | omega | (simp; done) | (simp; omega))))
            have hop3 := (hb3.block wr.heap.size (by simp)).trans (heap_alloc_new wr (.cells #[.int .i64 0, .int .i64 t0, .int .i64 t1, .int .i64 t2, .int .i64 t3, .int .i64 t4, .slice V zs.length d, .bool first] 59))
            have hbx3 := (hB3.block _ hBs).trans Hbox.out
            clear e0 e1 e2 e3 ef
            have e0 := cell_of_row w3 _ 0 _ _ _ hbx3
            have e1 := cell_of_row w3 _ 1 _ _ _ hbx3
            have e2 := cell_of_row w3 _ 2 _ _ _ hbx3
            have e3 := cell_of_row w3 _ 3 _ _ _ hbx3
            have ef := fun j => frozen_of_row w3 _ j _ _ hbx3
            have m0 := cell_of_row w3 _ 0 _ _ _ hop3
            have m1 := cell_of_row w3 _ 1 _ _ _ hop3
            have m2 := cell_of_row w3 _ 2 _ _ _ hop3
            have m3 := cell_of_row w3 _ 3 _ _ _ hop3
            have m4 := cell_of_row w3 _ 4 _ _ _ hop3
            have m5 := cell_of_row w3 _ 5 _ _ _ hop3
            have m6 := cell_of_row w3 _ 6 _ _ _ hop3
            have m7 := cell_of_row w3 _ 7 _ _ _ hop3
            have mf := fun j => frozen_of_row w3 _ j _ _ hop3
            have hs3 : wr.heap.size < w3.heap.size := lt_of_block hop3
            have hs4 : w2.heap.size < w3.heap.size := by omega
            have hs5 : w2.heap.size < w3.heap.size + 1 := by omega
            have hne1 : ¬ (w2.heap.size = wr.heap.size) := by omega
            have hne2 : ¬ (wr.heap.size = w2.heap.size) := by omega
            have hne3 : ¬ (w2.heap.size = w3.heap.size) := by omega
            have hsend2 := fun w' (q : BothAt W w' w2.heap.size W.heap.size g A1 c1 s s) => linkSend_full W.heap.size W.heap.size g s #[.int .i64 t0, .int .i64 t1, .int .i64 t2, .int .i64 t3, .int .i64 t4, .slice V zs.length d] w' q.hL (by have := q.hL.ok.sr; omega)
            have h4 := box4_set (.int .i64 s.cap) (.slice A1 s.msgs.length c1) (.int .i64 s.recv) (.int .i64 s.peak) hbx3
            have hK : Keep (fun i => i = w2.heap.size) w3 _ := box4_keep (b := w2.heap.size) (.int .i64 s.cap) (.slice A1 s.msgs.length c1) (.int .i64 s.recv) (.int .i64 s.peak)
            have hB4 := (HB.out.below hB3).setBox hK h4 (MsgsIn.keep (HB.out.below hB3).hM hK (fun a ha e => (HB.out.hA a ha).2.2.2 e)) HB.out.hc (fun a ha => ⟨Nat.lt_of_lt_of_le (HB.out.hA a ha).1 (Nat.le_trans hB3.size hK.size), (HB.out.hA a ha).2⟩)
            have hB4' := hB4.below ((Below.refl _ _).alloc (Nat.le_refl _) (.cells #[.int .i64 s.cap, .slice A1 s.msgs.length c1, .int .i64 s.recv, .int .i64 s.peak] 46))
            have Hsend2 := Lib.hid hsend2; have HB4 := Lib.hid hB4'; clear hsend2 hB4 hB4' h4 hK hB3 hb3 hop3 hbx3 Hsend
            go_wp2_with fail
            with_reducible refine (Hsend2.out _ HB4.out).mono ?_
            rintro e w5 ⟨rfl, hb5⟩
            have hB5 := HB4.out.below hb5
            have hbx5 := hB5.hbox
            unfold RefBox at hbx5
            clear e0 e1 e2 e3 ef
            have e0 := cell_of_row w5 _ 0 _ _ _ hbx5
            have e1 := cell_of_row w5 _ 1 _ _ _ hbx5
            have e2 := cell_of_row w5 _ 2 _ _ _ hbx5
            have e3 := cell_of_row w5 _ 3 _ _ _ hbx5
            have ef := fun j => frozen_of_row w5 _ j _ _ hbx5
            have hsame := hB5.same rfl
            have Hsame := Lib.hid hsame; have HB5 := Lib.hid hB5; clear hsame hB5 hbx5 hb5 HB4 Hsend2
            go_wp2_with fail
            refine Hsame.out.mono ?_
            rintro e w6 ⟨rfl, hb6⟩
            have HB6 := Lib.hid (HB5.out.below hb6); clear hb6 HB5
            go_wp2_with fail
            go_roundw
            case rel => exact ⟨k + 1, by omega, by go_num, g, A1, c1, s, HB6.out, Hsc.out, by omega⟩
            case measure => simp [intOf]; omega
        · have hkb : (kind == 0) = false := by simpa using hk0
          clear hk0
          have hmsgs := fun w' (q : BothAt W w' w2.heap.size W.heap.size g A1 c1 s s) => refMsgs s.cap A1 s.msgs c1 s.recv s.peak w' q.rd hrs q.hc (by omega)
          have Hmsgs := Lib.hid hmsgs; clear hmsgs
          go_wp2_with fail
          refine (Hmsgs.out _ (HB.out.below ?_)).mono ?_
          · (focus (repeat' (first | (with_reducible exact Below.refl _ _) | (with_reducible assumption) | (with_reducible refine Below.setCell ?_ ?_ _) | (with_reducible refine Below.alloc ?_ ?_ _) | (with_reducible refine below_drewN ?_ _) | (with_reducible refine Below.drew ?_) | (with_reducible exact Nat.le_refl _) | omega | (simp; done) | (simp; omega))))
          rintro e w3 ⟨A3, c3, rfl, hM3, hb3⟩
          obtain ⟨n, hn9⟩ : ∃ n, s.msgs.length - s.recv = n := ⟨_, rfl⟩
          rw [hn9]
          have hB3 : Below wr.heap.size wr w3 := by
            refine Below.trans ?_ (hb3.mono (by simp; omega))
            (focus (repeat' (first | (with_reducible exact Below.refl _ _) | (with_reducible assumption) | (with_reducible refine Below.setCell ?_ ?_ _) | (with_reducible refine Below.alloc ?_ ?_ _) | (with_reducible refine below_drewN ?_ _) | (with_reducible refine Below.drew ?_) | (with_reducible exact Nat.le_refl _) | omega | (simp; done) | (simp; omega))))
          have hop3 : w3.heap[wr.heap.size]? = some (.cells #[.int .i64 kind, .int .i64 t0, .int .i64 t1, .int .i64 t2, .int .i64 t3, .int .i64 t4, .slice V zs.length d, .bool first] 59 (0, 0)) := by
            rw [hb3.block _ (by simp; omega), Below.heap_alloc _ _ _ (by simp)]
            exact heap_alloc_new wr _
          have htg3 : w3.heap[wr.heap.size + 1]? = some (.cells #[.int .i64 t0, .int .i64 t1, .int .i64 t2, .int .i64 t3, .int .i64 t4] 34 (0, 0)) := by
            rw [hb3.block _ (by simp)]
            simpa using heap_alloc_new (wr.alloc (.cells #[.int .i64 kind, .int .i64 t0, .int .i64 t1, .int .i64 t2, .int .i64 t3, .int .i64 t4, .slice V zs.length d, .bool first] 59)) (.cells #[.int .i64 t0, .int .i64 t1, .int .i64 t2, .int .i64 t3, .int .i64 t4] 34)
          have o0 := cell_of_row w3 _ 0 _ _ _ hop3
          have o1 := cell_of_row w3 _ 1 _ _ _ hop3
          have o2 := cell_of_row w3 _ 2 _ _ _ hop3
          have o3 := cell_of_row w3 _ 3 _ _ _ hop3
          have o4 := cell_of_row w3 _ 4 _ _ _ hop3
          have o5 := cell_of_row w3 _ 5 _ _ _ hop3
          have o6 := cell_of_row w3 _ 6 _ _ _ hop3
          have o7 := cell_of_row w3 _ 7 _ _ _ hop3
          have of := fun j => frozen_of_row w3 _ j _ _ hop3
          have T0 := cell_of_row w3 _ 0 _ _ _ htg3
          have T1 := cell_of_row w3 _ 1 _ _ _ htg3
          have T2 := cell_of_row w3 _ 2 _ _ _ htg3
          have T3 := cell_of_row w3 _ 3 _ _ _ htg3
          have T4 := cell_of_row w3 _ 4 _ _ _ htg3
          have Tf := fun j => frozen_of_row w3 _ j _ _ htg3
          have hs3 : wr.heap.size + 1 < w3.heap.size := lt_of_block htg3
          have hBt : ¬ (w2.heap.size = wr.heap.size + 1) := by omega
          clear e0 e1 e2 e3 ef q0 q1 q2 q3 q4 q5 q6 q7
          have HB3 := Lib.hid (HB.out.below hB3); have HM3 := Lib.hid hM3; have Htg3 := Lib.hid htg3; have Hn := Lib.hid hn9
          clear hB3 hM3 htg3 hop3 hb3 hn9 Hmsgs
          go_upto_region 16 with (fail)
          go_cut [72] (fun v wx => (∃ y : Bool, v = .bool y ∧ (y = true → 0 < n)) ∧ wx = w3)
          case first =>
            cases first with
            | false =>
              go_wp2_with fail
              go_meet
              exact ⟨⟨false, rfl, (fun h => by cases h)⟩, rfl⟩
            | true =>
              by_cases hn0 : 0 < n
              · go_wp2_with fail
                go_meet
                exact ⟨⟨true, rfl, fun _ => hn0⟩, rfl⟩
              · obtain rfl : n = 0 := by omega
                go_wp2_with fail
                go_meet
                exact ⟨⟨false, rfl, (fun h => by cases h)⟩, rfl⟩
          case rest =>
          obtain ⟨⟨y, rfl, hy⟩, hwc⟩ := hcut
          subst hwc
          rename World => w3
          go_upto_if 72 with (fail)
          go_cut [] (fun wx => ∃ r : Tg, wx.heap[wr.heap.size + 1]? = some (.cells #[.int .i64 r.a, .int .i64 r.b, .int .i64 r.c, .int .i64 r.d, .int .i64 r.e] 34 (0, 0)) ∧ Keep (fun i => i = wr.heap.size + 1) w3 wx)
          case first =>
            cases y with
            | false =>
              go_wp2_with fail
              go_meet
              exact ⟨⟨t0, t1, t2, t3, t4⟩, Htg3.out, Keep.refl _ _⟩
            | true =>
              have hn0 := hy rfl
              obtain ⟨bm, fm, Bm, dm, hAm, x7, _⟩ := HM3.out.at_ 0 (by rw [List.length_drop, Hn.out]; exact hn0)
              generalize msgAt (s.msgs.drop s.recv) 0 = mm at *
              obtain ⟨⟨u0, u1, u2, u3, u4⟩, us⟩ := mm
              obtain ⟨m0, m1, m2, m3, m4, m5⟩ := x7
              dsimp only at m0 m1 m2 m3 m4
              rw [Nat.zero_mul, Nat.add_zero] at m0 m1 m2 m3 m4
              subst hAm
              have hbx := mat_box5 Htg3.out (.int .i64 u0) (.int .i64 u1) (.int .i64 u2) (.int .i64 u3) (.int .i64 u4)
              have hkx := mat_keep5 (w := w3) (b := wr.heap.size + 1) (.int .i64 u0) (.int .i64 u1) (.int .i64 u2) (.int .i64 u3) (.int .i64 u4)
              have Hbx := Lib.hid hbx; have Hkx := Lib.hid hkx; clear hbx hkx m5 hy
              go_wp2_with fail
              go_meet
              exact ⟨⟨u0, u1, u2, u3, u4⟩, Hbx.out, Hkx.out⟩
          case rest =>
            obtain ⟨⟨r0, r1, r2, r3, r4⟩, hT, hK⟩ := hcut
            dsimp only at hT
            have hBc := HB3.out.other hK Htg3.out (by decide) (by decide) (by decide) hBt (fun a ha => by have := (HB.out.hA a ha).1; omega) (by have := HB.out.hW.size; omega)
            clear o0 o1 o2 o3 o4 o5 o6 o7 of T0 T1 T2 T3 T4 Tf
            have T0 := cell_of_row wc _ 0 _ _ _ hT
            have T1 := cell_of_row wc _ 1 _ _ _ hT
            have T2 := cell_of_row wc _ 2 _ _ _ hT
            have T3 := cell_of_row wc _ 3 _ _ _ hT
            have T4 := cell_of_row wc _ 4 _ _ _ hT
            have Tf := fun j => frozen_of_row wc _ j _ _ hT
            have hsT : wr.heap.size + 1 < wc.heap.size := lt_of_block hT
            have hsB : w2.heap.size < wc.heap.size := lt_of_block hBc.hbox
            have HBc := Lib.hid hBc; have HT := Lib.hid hT; clear hBc hT hK HM3 Hn HB3 Htg3
            by_cases he : s.recv = s.msgs.length
            · have hr := linkRecv_none W.heap.size W.heap.size g s ⟨r0, r1, r2, r3, r4⟩ wc HBc.out.hL he
              have hrr : ∀ w', Calls Try.prog 33 #[.agg #[.int .i64 s.cap, .slice A1 s.msgs.length c1, .int .i64 s.recv, .int .i64 s.peak], .agg #[.int .i64 r0, .int .i64 r1, .int .i64 r2, .int .i64 r3, .int .i64 r4]] w' fun e w5 => e = .returned (.tuple #[.agg #[.int .i64 s.cap, .slice A1 s.msgs.length c1, .int .i64 s.recv, .int .i64 s.peak], .agg #[.int .i64 0, .int .i64 0, .int .i64 0, .int .i64 0, .int .i64 0, .slice none 0 0], .int .i64 12]) ∧ Below w'.heap.size w' w5 := fun w' => by
                have := refRecv_empty s.cap A1 s.msgs.length c1 s.peak ⟨r0, r1, r2, r3, r4⟩ w' (by omega)
                rwa [show ((s.msgs.length : Nat) : Int) = (s.recv : Int) by omega] at this
              have Hr := Lib.hid hr; have Hrr := Lib.hid hrr; clear hr hrr he
              go_wp2_with fail
              refine Hr.out.mono ?_
              rintro e w4 ⟨rfl, hb4⟩
              have hB4 := HBc.out.below hb4
              have hT4 := (hb4.block _ hsT).trans HT.out
              have hs4 := hb4.size
              have hbx4 := hB4.hbox
              unfold RefBox at hbx4
              try clear T0 T1 T2 T3 T4 Tf
              have e0 := cell_of_row w4 _ 0 _ _ _ hbx4
              have e1 := cell_of_row w4 _ 1 _ _ _ hbx4
              have e2 := cell_of_row w4 _ 2 _ _ _ hbx4
              have e3 := cell_of_row w4 _ 3 _ _ _ hbx4
              have ef := fun j => frozen_of_row w4 _ j _ _ hbx4
              have T0 := cell_of_row w4 _ 0 _ _ _ hT4
              have T1 := cell_of_row w4 _ 1 _ _ _ hT4
              have T2 := cell_of_row w4 _ 2 _ _ _ hT4
              have T3 := cell_of_row w4 _ 3 _ _ _ hT4
              have T4 := cell_of_row w4 _ 4 _ _ _ hT4
              have Tf := fun j => frozen_of_row w4 _ j _ _ hT4
              have hs6 : w2.heap.size < w4.heap.size := by omega
              have hs7 : wr.heap.size + 1 < w4.heap.size := by omega
              have hB4a := hB4.below ((Below.refl _ _).alloc (Nat.le_refl _) (.cells #[.int .i64 0, .int .i64 0, .int .i64 0, .int .i64 0, .int .i64 0, .slice none 0 0] 37))
              have HB4 := Lib.hid hB4; have HB4a := Lib.hid hB4a; have Hbx4 := Lib.hid hbx4; clear hB4 hB4a hbx4 hT4 HBc HT hb4
              go_wp2_with fail
              refine (Hrr.out _).mono ?_
              rintro e w5 ⟨rfl, hb5⟩
              have hB5 : Below w4.heap.size w4 w5 := Below.trans ((Below.refl _ _).alloc (Nat.le_refl _) _) (hb5.mono (by simp))
              have hbx5 := (hB5.block _ hs6).trans Hbx4.out
              have hms5 := (hb5.block w4.heap.size (by simp)).trans (heap_alloc_new w4 _)
              have hs8 : w4.heap.size < w5.heap.size := lt_of_block hms5
              have hs9 : w2.heap.size < w5.heap.size := by omega
              have hn1 : ¬ (w2.heap.size = w4.heap.size) := by omega
              have hn2 : ¬ (w4.heap.size = w2.heap.size) := by omega
              have hn3 : ¬ (w2.heap.size = w5.heap.size) := by omega
              have hn4 : ¬ (w2.heap.size = w5.heap.size + 1) := by omega
              have hs10 : w2.heap.size < w5.heap.size + 1 := by omega
              have hs11 : w2.heap.size < w5.heap.size + 1 + 1 := by omega
              have hs12 : w4.heap.size < w5.heap.size + 1 := by omega
              have hs13 : w4.heap.size < w5.heap.size + 1 + 1 := by omega
              clear e0 e1 e2 e3 ef; try clear T0 T1 T2 T3 T4 Tf
              have e0 := cell_of_row w5 _ 0 _ _ _ hbx5
              have e1 := cell_of_row w5 _ 1 _ _ _ hbx5
              have e2 := cell_of_row w5 _ 2 _ _ _ hbx5
              have e3 := cell_of_row w5 _ 3 _ _ _ hbx5
              have ef := fun j => frozen_of_row w5 _ j _ _ hbx5
              have m0 := cell_of_row w5 _ 0 _ _ _ hms5
              have m1 := cell_of_row w5 _ 1 _ _ _ hms5
              have m2 := cell_of_row w5 _ 2 _ _ _ hms5
              have m3 := cell_of_row w5 _ 3 _ _ _ hms5
              have m4 := cell_of_row w5 _ 4 _ _ _ hms5
              have m5 := cell_of_row w5 _ 5 _ _ _ hms5
              have mf := fun j => frozen_of_row w5 _ j _ _ hms5
              have HB5 := Lib.hid (HB4.out.below hB5); have HBB5 := Lib.hid hB5; have Hbx5 := Lib.hid hbx5; clear hB5 hbx5 hms5 hb5
              go_wp2_with fail
              have h4 := box4_set (.int .i64 s.cap) (.slice A1 s.msgs.length c1) (.int .i64 (s.recv : Int)) (.int .i64 s.peak) Hbx5.out
              have hK : Keep (fun i => i = w2.heap.size) w5 _ := box4_keep (b := w2.heap.size) (.int .i64 s.cap) (.slice A1 s.msgs.length c1) (.int .i64 (s.recv : Int)) (.int .i64 s.peak)
              have hB6 := HB5.out.setBox (sr' := s) hK h4 (MsgsIn.keep HB5.out.hM hK (fun a ha e => (HB5.out.hA a ha).2.2.2 e)) HB5.out.hc (fun a ha => ⟨Nat.lt_of_lt_of_le (HB5.out.hA a ha).1 hK.size, (HB5.out.hA a ha).2⟩)
              have hB7 := (hB6.below ((Below.refl _ _).alloc (Nat.le_refl _) (.cells #[.int .i64 s.cap, .slice A1 s.msgs.length c1, .int .i64 (s.recv : Int), .int .i64 s.peak] 46))).below ((Below.refl _ _).alloc (Nat.le_refl _) (.cells #[.int .i64 0, .int .i64 0, .int .i64 0, .int .i64 0, .int .i64 0, .slice none 0 0] 37))
              have hsm7 := fun w' => refSame 0 0 0 0 0 none none [] 0 0 w' (Rd.nil _ _) (Rd.nil _ _) (by simp)
              simp only [List.length_nil] at hsm7
              have Hsm7 := Lib.hid hsm7; have HB7 := Lib.hid hB7; clear hsm7 hB7 hB6 hK h4
              go_wp2_with fail
              refine (Hsm7.out _).mono ?_
              rintro e w8 ⟨rfl, hb8⟩
              have hB8 := HB7.out.below hb8
              have hbx8 := hB8.hbox
              unfold RefBox at hbx8
              clear e0 e1 e2 e3 ef m0 m1 m2 m3 m4 m5 mf
              have e0 := cell_of_row w8 _ 0 _ _ _ hbx8
              have e1 := cell_of_row w8 _ 1 _ _ _ hbx8
              have e2 := cell_of_row w8 _ 2 _ _ _ hbx8
              have e3 := cell_of_row w8 _ 3 _ _ _ hbx8
              have ef := fun j => frozen_of_row w8 _ j _ _ hbx8
              have hsame := hB8.same rfl
              have Hsame := Lib.hid hsame; have HB8 := Lib.hid hB8; clear hsame hB8 hbx8 hb8 HB7 Hsm7
              go_wp2_with fail
              refine Hsame.out.mono ?_
              rintro e w9 ⟨rfl, hb9⟩
              have HB9 := Lib.hid (HB8.out.below hb9); clear hb9 HB8
              go_wp2_with fail
              go_roundw
              case rel => exact ⟨k + 1, by omega, by go_num, g, A1, c1, s, HB9.out, Hsc.out, by first | omega | (simp only; omega)⟩
              case measure => simp [intOf]; omega
            · have hlt2 : s.recv < s.msgs.length := by omega
              by_cases htag : (msgAt s.msgs s.recv).tag = ⟨r0, r1, r2, r3, r4⟩
              · have hr := linkRecv_ok W.heap.size W.heap.size g s ⟨r0, r1, r2, r3, r4⟩ wc HBc.out.hL hlt2 htag
                have hrr := fun w' (q : MsgsIn W w' A1 s.msgs) => refRecv_ok W s.cap A1 s.msgs c1 s.recv s.peak ⟨r0, r1, r2, r3, r4⟩ w' q hlt2 (by omega) htag
                have hvl := HBc.out.hL.ok.vals (msgAt s.msgs s.recv) (by rw [msgAt, List.getD, List.getElem?_eq_getElem hlt2]; exact List.getElem_mem _)
                generalize msgAt s.msgs s.recv = mm at *
                obtain ⟨mt, us⟩ := mm
                dsimp only at hr hrr hvl
                have Hr := Lib.hid hr; have Hrr := Lib.hid hrr; clear hr hrr htag
                go_wp2_with fail
                refine Hr.out.mono ?_
                rintro e w4 ⟨A5, c5, rfl, hown5, hl4, hk4⟩
                have hB4 := HBc.out.link (hk4.mono fun k _ h => .inl h) hl4 (.inl rfl)
                have hT4 := (hk4.block _ hsT (by have := HB.out.hL.blocks.1; omega)).trans HT.out
                have hs4 := hk4.size
                have hbx4 := hB4.hbox
                unfold RefBox at hbx4
                try clear T0 T1 T2 T3 T4 Tf
                have e0 := cell_of_row w4 _ 0 _ _ _ hbx4
                have e1 := cell_of_row w4 _ 1 _ _ _ hbx4
                have e2 := cell_of_row w4 _ 2 _ _ _ hbx4
                have e3 := cell_of_row w4 _ 3 _ _ _ hbx4
                have ef := fun j => frozen_of_row w4 _ j _ _ hbx4
                have T0 := cell_of_row w4 _ 0 _ _ _ hT4
                have T1 := cell_of_row w4 _ 1 _ _ _ hT4
                have T2 := cell_of_row w4 _ 2 _ _ _ hT4
                have T3 := cell_of_row w4 _ 3 _ _ _ hT4
                have T4 := cell_of_row w4 _ 4 _ _ _ hT4
                have Tf := fun j => frozen_of_row w4 _ j _ _ hT4
                have hs6 : w2.heap.size < w4.heap.size := by omega
                have hs7 : wr.heap.size + 1 < w4.heap.size := by omega
                have hB4a := hB4.below ((Below.refl _ _).alloc (Nat.le_refl _) (.cells #[.int .i64 r0, .int .i64 r1, .int .i64 r2, .int .i64 r3, .int .i64 r4, .slice A5 us.length c5] 37))
                have HB4 := Lib.hid hB4; have HB4a := Lib.hid hB4a; have Hbx4 := Lib.hid hbx4; clear hB4 hB4a hbx4 hT4 HBc HT hl4 hk4
                have Hown5 := Lib.hid hown5; clear hown5
                go_wp2_with fail
                refine (Hrr.out _ HB4a.out.hM).mono ?_
                rintro e w5 ⟨A6, c6, rfl, hr6, hb5⟩
                have hB5 : Below w4.heap.size w4 w5 := Below.trans ((Below.refl _ _).alloc (Nat.le_refl _) _) (hb5.mono (by simp))
                have hbx5 := (hB5.block _ hs6).trans Hbx4.out
                have hms5 := (hb5.block w4.heap.size (by simp)).trans (heap_alloc_new w4 _)
                have hs8 : w4.heap.size < w5.heap.size := lt_of_block hms5
                have hs9 : w2.heap.size < w5.heap.size := by omega
                have hn1 : ¬ (w2.heap.size = w4.heap.size) := by omega
                have hn2 : ¬ (w4.heap.size = w2.heap.size) := by omega
                have hn3 : ¬ (w2.heap.size = w5.heap.size) := by omega
                have hn4 : ¬ (w2.heap.size = w5.heap.size + 1) := by omega
                have hs10 : w2.heap.size < w5.heap.size + 1 := by omega
                have hs11 : w2.heap.size < w5.heap.size + 1 + 1 := by omega
                have hs12 : w4.heap.size < w5.heap.size + 1 := by omega
                have hs13 : w4.heap.size < w5.heap.size + 1 + 1 := by omega
                clear e0 e1 e2 e3 ef; try clear T0 T1 T2 T3 T4 Tf
                have e0 := cell_of_row w5 _ 0 _ _ _ hbx5
                have e1 := cell_of_row w5 _ 1 _ _ _ hbx5
                have e2 := cell_of_row w5 _ 2 _ _ _ hbx5
                have e3 := cell_of_row w5 _ 3 _ _ _ hbx5
                have ef := fun j => frozen_of_row w5 _ j _ _ hbx5
                have m0 := cell_of_row w5 _ 0 _ _ _ hms5
                have m1 := cell_of_row w5 _ 1 _ _ _ hms5
                have m2 := cell_of_row w5 _ 2 _ _ _ hms5
                have m3 := cell_of_row w5 _ 3 _ _ _ hms5
                have m4 := cell_of_row w5 _ 4 _ _ _ hms5
                have m5 := cell_of_row w5 _ 5 _ _ _ hms5
                have mf := fun j => frozen_of_row w5 _ j _ _ hms5
                have HB5 := Lib.hid (HB4.out.below hB5); have HBB5 := Lib.hid hB5; have Hbx5 := Lib.hid hbx5; clear hB5 hbx5 hms5 hb5
                have Hr6 := Lib.hid hr6; clear hr6
                go_wp2_with fail
                have h4 := box4_set (.int .i64 s.cap) (.slice A1 s.msgs.length c1) (.int .i64 ((s.recv : Int) + 1)) (.int .i64 s.peak) Hbx5.out
                have hK : Keep (fun i => i = w2.heap.size) w5 _ := box4_keep (b := w2.heap.size) (.int .i64 s.cap) (.slice A1 s.msgs.length c1) (.int .i64 ((s.recv : Int) + 1)) (.int .i64 s.peak)
                have hB6 := HB5.out.setBox (sr' := { s with recv := s.recv + 1 }) hK (by unfold RefBox; rw [show ((({ s with recv := s.recv + 1 } : LSt).recv : Nat) : Int) = (s.recv : Int) + 1 from Int.natCast_add _ _]; exact h4) (MsgsIn.keep HB5.out.hM hK (fun a ha e => (HB5.out.hA a ha).2.2.2 e)) HB5.out.hc (fun a ha => ⟨Nat.lt_of_lt_of_le (HB5.out.hA a ha).1 hK.size, (HB5.out.hA a ha).2⟩)
                have hB7 := (hB6.below ((Below.refl _ _).alloc (Nat.le_refl _) (.cells #[.int .i64 s.cap, .slice A1 s.msgs.length c1, .int .i64 ((s.recv : Int) + 1), .int .i64 s.peak] 46))).below ((Below.refl _ _).alloc (Nat.le_refl _) (.cells #[.int .i64 r0, .int .i64 r1, .int .i64 r2, .int .i64 r3, .int .i64 r4, .slice A6 us.length c6] 37))
                have hk7 : Keep (fun i => i = w2.heap.size) w4 _ := ((Keep.below HBB5.out).trans hK).trans (Keep.alloc (Keep.alloc (Keep.refl _ _) (.cells #[.int .i64 s.cap, .slice A1 s.msgs.length c1, .int .i64 ((s.recv : Int) + 1), .int .i64 s.peak] 46)) (.cells #[.int .i64 r0, .int .i64 r1, .int .i64 r2, .int .i64 r3, .int .i64 r4, .slice A6 us.length c6] 37))
                have hr5 := Rd.own (hk7.own Hown5.out (fun k hk e => mat_ne Hown5.out Hbx4.out hk e))
                have hsm7 := refSame r0 r1 r2 r3 r4 A5 A6 us c5 c6 _ hr5 (Hr6.out.below hB7.hW) hvl
                have Hsm7 := Lib.hid hsm7; have HB7 := Lib.hid hB7; clear hsm7 hB7 hB6 hK h4 hk7 hr5
                go_wp2_with fail
                with_reducible refine Hsm7.out.mono ?_
                rintro e w8 ⟨rfl, hb8⟩
                have hB8 := HB7.out.below hb8
                have hbx8 := hB8.hbox
                unfold RefBox at hbx8
                clear e0 e1 e2 e3 ef m0 m1 m2 m3 m4 m5 mf
                have e0 := cell_of_row w8 _ 0 _ _ _ hbx8
                have e1 := cell_of_row w8 _ 1 _ _ _ hbx8
                have e2 := cell_of_row w8 _ 2 _ _ _ hbx8
                have e3 := cell_of_row w8 _ 3 _ _ _ hbx8
                have ef := fun j => frozen_of_row w8 _ j _ _ hbx8
                have hsame := hB8.same rfl
                have Hsame := Lib.hid hsame; have HB8 := Lib.hid hB8; clear hsame hB8 hbx8 hb8 HB7 Hsm7
                go_wp2_with fail
                refine Hsame.out.mono ?_
                rintro e w9 ⟨rfl, hb9⟩
                have HB9 := Lib.hid (HB8.out.below hb9); clear hb9 HB8
                go_wp2_with fail
                go_roundw
                case rel => exact ⟨k + 1, by omega, by go_num, g, A1, c1, { s with recv := s.recv + 1 }, HB9.out, Hsc.out, by first | omega | (simp only; omega)⟩
                case measure => simp [intOf]; omega
              · have hr := linkRecv_tag W.heap.size W.heap.size g s ⟨r0, r1, r2, r3, r4⟩ wc HBc.out.hL hlt2 htag
                have hrr := fun w' (q : BothAt W w' w2.heap.size W.heap.size g A1 c1 s s) => refRecv_tag s.cap A1 s.msgs c1 s.recv s.peak ⟨r0, r1, r2, r3, r4⟩ w' q.rd hlt2 (by omega) htag
                have Hr := Lib.hid hr; have Hrr := Lib.hid hrr; clear hr hrr htag
                go_wp2_with fail
                refine Hr.out.mono ?_
                rintro e w4 ⟨rfl, hb4⟩
                have hB4 := HBc.out.below hb4
                have hT4 := (hb4.block _ hsT).trans HT.out
                have hs4 := hb4.size
                have hbx4 := hB4.hbox
                unfold RefBox at hbx4
                try clear T0 T1 T2 T3 T4 Tf
                have e0 := cell_of_row w4 _ 0 _ _ _ hbx4
                have e1 := cell_of_row w4 _ 1 _ _ _ hbx4
                have e2 := cell_of_row w4 _ 2 _ _ _ hbx4
                have e3 := cell_of_row w4 _ 3 _ _ _ hbx4
                have ef := fun j => frozen_of_row w4 _ j _ _ hbx4
                have T0 := cell_of_row w4 _ 0 _ _ _ hT4
                have T1 := cell_of_row w4 _ 1 _ _ _ hT4
                have T2 := cell_of_row w4 _ 2 _ _ _ hT4
                have T3 := cell_of_row w4 _ 3 _ _ _ hT4
                have T4 := cell_of_row w4 _ 4 _ _ _ hT4
                have Tf := fun j => frozen_of_row w4 _ j _ _ hT4
                have hs6 : w2.heap.size < w4.heap.size := by omega
                have hs7 : wr.heap.size + 1 < w4.heap.size := by omega
                have hB4a := hB4.below ((Below.refl _ _).alloc (Nat.le_refl _) (.cells #[.int .i64 0, .int .i64 0, .int .i64 0, .int .i64 0, .int .i64 0, .slice none 0 0] 37))
                have HB4 := Lib.hid hB4; have HB4a := Lib.hid hB4a; have Hbx4 := Lib.hid hbx4; clear hB4 hB4a hbx4 hT4 HBc HT hb4
                go_wp2_with fail
                refine (Hrr.out _ HB4a.out).mono ?_
                rintro e w5 ⟨rfl, hb5⟩
                have hB5 : Below w4.heap.size w4 w5 := Below.trans ((Below.refl _ _).alloc (Nat.le_refl _) _) (hb5.mono (by simp))
                have hbx5 := (hB5.block _ hs6).trans Hbx4.out
                have hms5 := (hb5.block w4.heap.size (by simp)).trans (heap_alloc_new w4 _)
                have hs8 : w4.heap.size < w5.heap.size := lt_of_block hms5
                have hs9 : w2.heap.size < w5.heap.size := by omega
                have hn1 : ¬ (w2.heap.size = w4.heap.size) := by omega
                have hn2 : ¬ (w4.heap.size = w2.heap.size) := by omega
                have hn3 : ¬ (w2.heap.size = w5.heap.size) := by omega
                have hn4 : ¬ (w2.heap.size = w5.heap.size + 1) := by omega
                have hs10 : w2.heap.size < w5.heap.size + 1 := by omega
                have hs11 : w2.heap.size < w5.heap.size + 1 + 1 := by omega
                have hs12 : w4.heap.size < w5.heap.size + 1 := by omega
                have hs13 : w4.heap.size < w5.heap.size + 1 + 1 := by omega
                clear e0 e1 e2 e3 ef; try clear T0 T1 T2 T3 T4 Tf
                have e0 := cell_of_row w5 _ 0 _ _ _ hbx5
                have e1 := cell_of_row w5 _ 1 _ _ _ hbx5
                have e2 := cell_of_row w5 _ 2 _ _ _ hbx5
                have e3 := cell_of_row w5 _ 3 _ _ _ hbx5
                have ef := fun j => frozen_of_row w5 _ j _ _ hbx5
                have m0 := cell_of_row w5 _ 0 _ _ _ hms5
                have m1 := cell_of_row w5 _ 1 _ _ _ hms5
                have m2 := cell_of_row w5 _ 2 _ _ _ hms5
                have m3 := cell_of_row w5 _ 3 _ _ _ hms5
                have m4 := cell_of_row w5 _ 4 _ _ _ hms5
                have m5 := cell_of_row w5 _ 5 _ _ _ hms5
                have mf := fun j => frozen_of_row w5 _ j _ _ hms5
                have HB5 := Lib.hid (HB4.out.below hB5); have HBB5 := Lib.hid hB5; have Hbx5 := Lib.hid hbx5; clear hB5 hbx5 hms5 hb5
                go_wp2_with fail
                have h4 := box4_set (.int .i64 s.cap) (.slice A1 s.msgs.length c1) (.int .i64 (s.recv : Int)) (.int .i64 s.peak) Hbx5.out
                have hK : Keep (fun i => i = w2.heap.size) w5 _ := box4_keep (b := w2.heap.size) (.int .i64 s.cap) (.slice A1 s.msgs.length c1) (.int .i64 (s.recv : Int)) (.int .i64 s.peak)
                have hB6 := HB5.out.setBox (sr' := s) hK h4 (MsgsIn.keep HB5.out.hM hK (fun a ha e => (HB5.out.hA a ha).2.2.2 e)) HB5.out.hc (fun a ha => ⟨Nat.lt_of_lt_of_le (HB5.out.hA a ha).1 hK.size, (HB5.out.hA a ha).2⟩)
                have hB7 := (hB6.below ((Below.refl _ _).alloc (Nat.le_refl _) (.cells #[.int .i64 s.cap, .slice A1 s.msgs.length c1, .int .i64 (s.recv : Int), .int .i64 s.peak] 46))).below ((Below.refl _ _).alloc (Nat.le_refl _) (.cells #[.int .i64 0, .int .i64 0, .int .i64 0, .int .i64 0, .int .i64 0, .slice none 0 0] 37))
                have hsm7 := fun w' => refSame 0 0 0 0 0 none none [] 0 0 w' (Rd.nil _ _) (Rd.nil _ _) (by simp)
                simp only [List.length_nil] at hsm7
                have Hsm7 := Lib.hid hsm7; have HB7 := Lib.hid hB7; clear hsm7 hB7 hB6 hK h4
                go_wp2_with fail
                refine (Hsm7.out _).mono ?_
                rintro e w8 ⟨rfl, hb8⟩
                have hB8 := HB7.out.below hb8
                have hbx8 := hB8.hbox
                unfold RefBox at hbx8
                clear e0 e1 e2 e3 ef m0 m1 m2 m3 m4 m5 mf
                have e0 := cell_of_row w8 _ 0 _ _ _ hbx8
                have e1 := cell_of_row w8 _ 1 _ _ _ hbx8
                have e2 := cell_of_row w8 _ 2 _ _ _ hbx8
                have e3 := cell_of_row w8 _ 3 _ _ _ hbx8
                have ef := fun j => frozen_of_row w8 _ j _ _ hbx8
                have hsame := hB8.same rfl
                have Hsame := Lib.hid hsame; have HB8 := Lib.hid hB8; clear hsame hB8 hbx8 hb8 HB7 Hsm7
                go_wp2_with fail
                refine Hsame.out.mono ?_
                rintro e w9 ⟨rfl, hb9⟩
                have HB9 := Lib.hid (HB8.out.below hb9); clear hb9 HB8
                go_wp2_with fail
                go_roundw
                case rel => exact ⟨k + 1, by omega, by go_num, g, A1, c1, s, HB9.out, Hsc.out, by first | omega | (simp only; omega)⟩
                case measure => simp [intOf]; omega
      · have hal : Below W.heap.size W wr := by obtain ⟨g, A1, c1, s, hB, _⟩ := hR; exact hB.hW
        have Hal := Lib.hid hal; clear hal hR
        go_wp2_with fail
        refine (alive18 _).mono ?_
        rintro e w3 ⟨rfl, hb3⟩
        go_wp2_with fail
        go_ret
        exact ⟨rfl, Hal.out.trans (hb3.mono Hal.out.size)⟩

theorem opens_ops : Opens Try.prog 56 1 (rSl rOp 8) := opens_slice Try.underlying56 opens_op (by kernel_rfl) (by decide +kernel)
set_option maxRecDepth 100000 in
theorem LinkMatches_walk {H : Type} {enc : TypeId × Value → H} {base : Nat} {v0 v1 : Value} {d0 d1 : DataW H} {p0 p1 : List MemPlace} (W : World)
    (o0 : Value.okWide Try.prog W .any base 5 v0) (h0 : DataW.Trod enc Try.prog W 0 (fun _ => true) true 5 v0 d0 p0) (_z0 : Light Try.prog 5 d0)
    (o1 : Value.okWide Try.prog W .any base 56 v1) (h1 : DataW.Trod enc Try.prog W 0 (fun _ => true) true 56 v1 d1 p1) (z1 : Light Try.prog 56 d1) :
    Calls Try.prog 8 #[v0, v1] W fun e w' => e = .returned (.bool true) ∧ Below W.heap.size W w' := by
  obtain ⟨n, rfl, rfl, rfl, wn⟩ := Go.ChangeShapes.open_int Try.underlying5 o0 h0
  obtain ⟨a, len, cap, rfl⟩ := okWide_slice Try.underlying56 o1
  obtain ⟨ops, ⟨A, c, e, _, _, hl, hA⟩, _⟩ := opens_param opens_ops h1 z1
  simp [Value.cells] at e
  obtain ⟨rfl, rfl, rfl⟩ := e
  exact matches_core n _ ops _ W (by simpa [Lit.wf, IntKind.min, IntKind.max, IntKind.signed, IntKind.bits] using wn) hA hl
end Go.Proofs.Ytpoeppehijhnnaa
