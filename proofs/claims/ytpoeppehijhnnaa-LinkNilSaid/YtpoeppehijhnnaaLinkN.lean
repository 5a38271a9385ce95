/- The walk of the law LinkNil. -/
import Derived.Test.YtpoeppehijhnnaaLinkH
import Derived.Test.YtpoeppehijhnnaaLinkP
namespace Go.Proofs.Ytpoeppehijhnnaa
open Go.RowKit

set_option maxHeartbeats 3200000 in
theorem nil_core (m0 m1 m2 m3 m4 t0 t1 t2 t3 t4 : Int) (A : Option Addr) (zs : List Int) (c : Nat) (W : World) (hA : Rd W A (nums .i64 zs)) (hz : zs.length ≤ 9223372036854775807) :
    Calls Try.prog 9 #[.agg #[.int .i64 m0, .int .i64 m1, .int .i64 m2, .int .i64 m3, .int .i64 m4, .slice A zs.length c], .agg #[.int .i64 t0, .int .i64 t1, .int .i64 t2, .int .i64 t3, .int .i64 t4]] W fun e w' => e = .returned (.bool true) ∧ Below W.heap.size W w' := by
  by_cases hbig : 500 < zs.length
  · go_enter Try.func9, Try.ntmps9
    go_wp2_with fail
    refine (alive18 _).mono ?_
    rintro e w5 ⟨rfl, hb5⟩
    go_wp2_with fail
    go_ret
    refine ⟨rfl, ?_⟩
    refine Below.trans ?_ (hb5.mono (by simp; omega))
    (focus (repeat' (first | (with_reducible exact Below.refl _ _) | (with_reducible assumption) | (with_reducible refine Below.setCell ?_ ?_ _) | (with_reducible refine Below.alloc ?_ ?_ _) | (with_reducible refine below_drewN ?_ _) | (with_reducible refine Below.drew ?_) | (with_reducible exact Nat.le_refl _) | omega | (simp; done) | (simp; omega))))
  · have hzl : zs.length ≤ 500 := by omega
    have hr := fun w' => linkRecv_nil ⟨t0, t1, t2, t3, t4⟩ w'
    have Hr := Lib.hid hr; clear hr
    have HA := Lib.hid hA; clear hA hz hbig
    go_enter Try.func9, Try.ntmps9
    go_wp2_with fail
    refine (Hr.out _).mono ?_
    rintro e w3 ⟨rfl, hb3⟩
    have hbm3 : w3.heap[W.heap.size]? = some (.cells #[.int .i64 m0, .int .i64 m1, .int .i64 m2, .int .i64 m3, .int .i64 m4, .slice A zs.length c] 37 (0, 0)) := by
      rw [hb3.block _ (by simp; omega), Below.heap_alloc _ _ _ (by simp)]
      exact heap_alloc_new W _
    have hbt3 : w3.heap[W.heap.size + 1]? = some (.cells #[.int .i64 t0, .int .i64 t1, .int .i64 t2, .int .i64 t3, .int .i64 t4] 34 (0, 0)) := by
      rw [hb3.block _ (by simp)]
      simpa using heap_alloc_new (W.alloc (.cells #[.int .i64 m0, .int .i64 m1, .int .i64 m2, .int .i64 m3, .int .i64 m4, .slice A zs.length c] 37)) (.cells #[.int .i64 t0, .int .i64 t1, .int .i64 t2, .int .i64 t3, .int .i64 t4] 34)
    have hW3 : Below W.heap.size W w3 := by
      refine Below.trans ?_ (hb3.mono (by simp; omega))
      (focus (repeat' (first | (with_reducible exact Below.refl _ _) | (with_reducible assumption) | (with_reducible refine Below.setCell ?_ ?_ _) | (with_reducible refine Below.alloc ?_ ?_ _) | (with_reducible refine below_drewN ?_ _) | (with_reducible refine Below.drew ?_) | (with_reducible exact Nat.le_refl _) | omega | (simp; done) | (simp; omega))))
    have Hbm3 := Lib.hid hbm3; have Hbt3 := Lib.hid hbt3; have HW3 := Lib.hid hW3; clear hbm3 hbt3 hW3 hb3 Hr
    go_wp2_with fail
    refine (linkCounts_nil _).mono ?_
    rintro e w4 ⟨rfl, rfl⟩
    go_wp2_with fail
    refine (linkPeek_nil _).mono ?_
    rintro e w4 ⟨rfl, hb4⟩
    have hW4 : Below w3.heap.size w3 w4 := by
      refine Below.trans ?_ (hb4.mono (by simp))
      (focus (repeat' (first | (with_reducible exact Below.refl _ _) | (with_reducible assumption) | (with_reducible refine Below.setCell ?_ ?_ _) | (with_reducible refine Below.alloc ?_ ?_ _) | (with_reducible refine below_drewN ?_ _) | (with_reducible refine Below.drew ?_) | (with_reducible exact Nat.le_refl _) | omega | (simp; done) | (simp; omega))))
    have HW4 := Lib.hid hW4; clear hW4 hb4
    go_wp2_with fail
    refine (linkNew 1 _ (by decide)).mono ?_
    rintro e w5 ⟨rfl, rfl⟩
    have hl3 := linkAt_new (w4.alloc (.cells #[.int .i64 0, .int .i64 0, .int .i64 0, .int .i64 0, .int .i64 0] 34)) W.heap.size 1 (by decide) (by decide)
    rw [show (w4.alloc (.cells #[.int .i64 0, .int .i64 0, .int .i64 0, .int .i64 0, .int .i64 0] 34)).heap.size = w4.heap.size + 1 by simp] at hl3
    have hs3 := lt_of_block Hbt3.out
    have hbm5 := (HW4.out.block W.heap.size (by omega)).trans Hbm3.out
    have p0 := cell_of_row w4 _ 0 _ _ _ hbm5
    have p1 := cell_of_row w4 _ 1 _ _ _ hbm5
    have p2 := cell_of_row w4 _ 2 _ _ _ hbm5
    have p3 := cell_of_row w4 _ 3 _ _ _ hbm5
    have p4 := cell_of_row w4 _ 4 _ _ _ hbm5
    have p5 := cell_of_row w4 _ 5 _ _ _ hbm5
    have pf := fun j => frozen_of_row w4 _ j _ _ hbm5
    have Hl3 := Lib.hid hl3; clear hl3 hbm5
    have hs4 := HW4.out.size
    have hs5 : W.heap.size < w4.heap.size := by omega
    have hs6 : W.heap.size < w4.heap.size + 1 := by omega
    go_wp2_with fail
    refine (linkSend_nil _ _ rfl _).mono ?_
    rintro e w6 ⟨rfl, hb6⟩
    go_wp2_with fail
    refine (linkLen_nil _).mono ?_
    rintro e w7 ⟨rfl, rfl⟩
    go_wp2_with fail
    refine (linkCap_nil _).mono ?_
    rintro e w7 ⟨rfl, rfl⟩
    go_wp2_with fail
    refine (linkPeak_nil _).mono ?_
    rintro e w7 ⟨rfl, rfl⟩
    go_wp2_with fail
    refine (linkMsgs_nil _).mono ?_
    rintro e w7 ⟨rfl, hb7⟩
    have hl7 := (Hl3.out.below hb6).below hb7
    have hW7 : Below w4.heap.size w4 w7 := by
      refine Below.trans (Below.trans ?_ (hb6.mono (by simp; omega))) (hb7.mono (by have := hb6.size; simp at this; omega))
      (focus (repeat' (first | (with_reducible exact Below.refl _ _) | (with_reducible assumption) | (with_reducible refine Below.setCell ?_ ?_ _) | (with_reducible refine Below.alloc ?_ ?_ _) | (with_reducible refine below_drewN ?_ _) | (with_reducible refine Below.drew ?_) | (with_reducible exact Nat.le_refl _) | omega | (simp; done) | (simp; omega))))
    have hs7 := hW7.size
    have hbm7 := (hW7.block W.heap.size hs5).trans ((HW4.out.block W.heap.size (by omega)).trans Hbm3.out)
    have hbt7 := (hW7.block (W.heap.size + 1) (by omega)).trans ((HW4.out.block (W.heap.size + 1) (by omega)).trans Hbt3.out)
    have hWW7 : Below W.heap.size W w7 := HW3.out.trans ((HW4.out.trans (hW7.mono (by omega))).mono (by omega))
    clear p0 p1 p2 p3 p4 p5 pf
    have p0 := cell_of_row w7 _ 0 _ _ _ hbm7
    have p1 := cell_of_row w7 _ 1 _ _ _ hbm7
    have p2 := cell_of_row w7 _ 2 _ _ _ hbm7
    have p3 := cell_of_row w7 _ 3 _ _ _ hbm7
    have p4 := cell_of_row w7 _ 4 _ _ _ hbm7
    have p5 := cell_of_row w7 _ 5 _ _ _ hbm7
    have pf := fun j => frozen_of_row w7 _ j _ _ hbm7
    have Hl7 := Lib.hid hl7; have HW7 := Lib.hid hWW7; have Hbm7 := Lib.hid hbm7; have Hbt7 := Lib.hid hbt7; clear hl7 hWW7 hbm7 hbt7 hW7 hb6 hb7 Hl3 HW3 HW4 Hbm3 Hbt3
    have hs8 : W.heap.size < w7.heap.size := by omega
    have hs9 : W.heap.size + 1 < w7.heap.size := by omega
    have hB0 : BothAt W (w7.alloc (.cells #[.int .i64 1, .slice none 0 0, .int .i64 0, .int .i64 0] 46)) w7.heap.size (w4.heap.size + 1) none none 0 (LSt.new 1) (LSt.new 1) := by
      refine ⟨Hl7.out.below ((Below.refl _ _).alloc (Nat.le_refl _) _), heap_alloc_new w7 _, MsgsIn.nil _ _ _, Nat.le_refl _, (fun a ha => by cases ha), HW7.out.trans ((Below.refl _ _).alloc (by omega) _), by omega, by omega⟩
    have hrs := fun w' => refSend W 1 none [] 0 0 0 ⟨m0, m1, m2, m3, m4⟩ A zs c w' (Nat.le_refl _) (by simp) (by simp) (MsgsIn.nil _ _ _) HA.out
    simp only [List.length_nil] at hrs
    have Hrs := Lib.hid hrs; have HB0 := Lib.hid hB0; clear hrs hB0
    go_wp2_with fail
    refine (Hrs.out _).mono ?_
    rintro e w8 ⟨A', c', P, hP, rfl, ⟨hM, hc', hA'⟩, hb8⟩
    obtain rfl : P = 1 := by simpa using hP
    rw [show (([] : List Msg) ++ [(⟨⟨m0, m1, m2, m3, m4⟩, zs⟩ : Msg)]).length = 1 from rfl]
    have hb8' : Below w7.heap.size w7 w8 := Below.trans ((Below.refl _ _).alloc (Nat.le_refl _) _) (hb8.mono (by simp))
    have hbm8 := (hb8'.block W.heap.size hs8).trans Hbm7.out
    have hbt8 := (hb8'.block (W.heap.size + 1) hs9).trans Hbt7.out
    have hbr8 := (hb8.block w7.heap.size (by simp)).trans (heap_alloc_new w7 _)
    have hs10 : w7.heap.size < w8.heap.size := by have := hb8.size; simp at this; omega
    have hs11 : W.heap.size < w8.heap.size := by omega
    have hs12 : W.heap.size + 1 < w8.heap.size := by omega
    have hn1 : ¬ (W.heap.size = w7.heap.size) := by omega
    have hn2 : ¬ (w7.heap.size = W.heap.size) := by omega
    have hn3 : ¬ (W.heap.size + 1 = w7.heap.size) := by omega
    have hn4 : ¬ (w7.heap.size = W.heap.size + 1) := by omega
    clear p0 p1 p2 p3 p4 p5 pf
    have p0 := cell_of_row w8 _ 0 _ _ _ hbm8
    have p1 := cell_of_row w8 _ 1 _ _ _ hbm8
    have p2 := cell_of_row w8 _ 2 _ _ _ hbm8
    have p3 := cell_of_row w8 _ 3 _ _ _ hbm8
    have p4 := cell_of_row w8 _ 4 _ _ _ hbm8
    have p5 := cell_of_row w8 _ 5 _ _ _ hbm8
    have pf := fun j => frozen_of_row w8 _ j _ _ hbm8
    have q0 := cell_of_row w8 _ 0 _ _ _ hbt8
    have q1 := cell_of_row w8 _ 1 _ _ _ hbt8
    have q2 := cell_of_row w8 _ 2 _ _ _ hbt8
    have q3 := cell_of_row w8 _ 3 _ _ _ hbt8
    have q4 := cell_of_row w8 _ 4 _ _ _ hbt8
    have qf := fun j => frozen_of_row w8 _ j _ _ hbt8
    have r0 := cell_of_row w8 _ 0 _ _ _ hbr8
    have r1 := cell_of_row w8 _ 1 _ _ _ hbr8
    have r2 := cell_of_row w8 _ 2 _ _ _ hbr8
    have r3 := cell_of_row w8 _ 3 _ _ _ hbr8
    have rf := fun j => frozen_of_row w8 _ j _ _ hbr8
    have hbx := box4_set (.int .i64 1) (.slice A' 1 c') (.int .i64 0) (.int .i64 1) hbr8
    have hB1 := HB0.out.refSent (sr' := (LSt.new 1).send ⟨⟨m0, m1, m2, m3, m4⟩, zs⟩) hb8 (by simp [LSt.send]) hM hc' hA' (box4_keep (b := w7.heap.size) (.int .i64 1) (.slice A' 1 c') (.int .i64 0) (.int .i64 1)) hbx
    have hls := linkSend W.heap.size (w4.heap.size + 1) none (LSt.new 1) ⟨m0, m1, m2, m3, m4⟩ A zs c _ hB1.hL (by simp [LSt.new]) (by simp [LSt.new]) hB1.hW.size (HA.out.below hB1.hW) (by omega)
    have HB1 := Lib.hid hB1; have Hls := Lib.hid hls; have Hbt8 := Lib.hid hbt8; clear hM hc' hA' hb8 hb8' hP hbm8 hbt8 hbr8 hbx hB1 hls Hrs Hbm7 Hbt7 HB0 Hl7
    go_wp2_with fail
    refine Hls.out.mono ?_
    rintro e w9 ⟨rfl, g9, hl9, hk9, hg9⟩
    have hB9 := HB1.out.link hk9 hl9 hg9
    have hbt9 := (hk9.block (W.heap.size + 1) (by simp; omega) (by rintro (e | e); (omega); (cases e))).trans (((box4_keep (w := w8) (b := w7.heap.size) (.int .i64 1) (.slice A' 1 c') (.int .i64 0) (.int .i64 1)).block (W.heap.size + 1) hs12 hn3).trans Hbt8.out)
    have hs13 : w7.heap.size < w9.heap.size := by have := hk9.size; simp at this; omega
    have hs14 : W.heap.size + 1 < w9.heap.size := by omega
    clear p0 p1 p2 p3 p4 p5 pf q0 q1 q2 q3 q4 qf r0 r1 r2 r3 rf
    have q0 := cell_of_row w9 _ 0 _ _ _ hbt9
    have q1 := cell_of_row w9 _ 1 _ _ _ hbt9
    have q2 := cell_of_row w9 _ 2 _ _ _ hbt9
    have q3 := cell_of_row w9 _ 3 _ _ _ hbt9
    have q4 := cell_of_row w9 _ 4 _ _ _ hbt9
    have qf := fun j => frozen_of_row w9 _ j _ _ hbt9
    have hrf := fun w' (k : BothAt W w' w7.heap.size (w4.heap.size + 1) g9 A' c' ((LSt.new 1).send ⟨⟨m0, m1, m2, m3, m4⟩, zs⟩) ((LSt.new 1).send ⟨⟨m0, m1, m2, m3, m4⟩, zs⟩)) => k.same rfl
    have Hsame := Lib.hid hrf; clear hrf
    by_cases ht : (⟨m0, m1, m2, m3, m4⟩ : Tg) = ⟨t0, t1, t2, t3, t4⟩
    · cases ht
      have hr := linkRecv_ok W.heap.size (w4.heap.size + 1) g9 _ ⟨m0, m1, m2, m3, m4⟩ w9 hB9.hL (by simp [LSt.send, LSt.new]) rfl
      have Hr := Lib.hid hr; have HB9 := Lib.hid hB9; have Hbt9 := Lib.hid hbt9; clear hr hB9 hbt9 hk9 hl9 hg9 Hls HB1 Hbt8
      go_wp2_with fail
      refine Hr.out.mono ?_
      rintro e w10 ⟨A5, c5, rfl, _, hl10, hk10⟩
      have hB10 := HB9.out.link (hk10.mono fun k _ h => .inl h) hl10 (.inl rfl)
      have hbt10 := (hk10.block (W.heap.size + 1) hs14 (by omega)).trans Hbt9.out
      have hbr10 : w10.heap[w7.heap.size]? = some (.cells #[.int .i64 1, .slice A' 1 c', .int .i64 0, .int .i64 1] 46 (0, 0)) := hB10.hbox
      have hM10 := hB10.rd
      have hs15 := hk10.size
      have hs16 : w7.heap.size < w10.heap.size := by omega
      have hs17 : W.heap.size + 1 < w10.heap.size := by omega
      clear q0 q1 q2 q3 q4 qf
      have q0 := cell_of_row w10 _ 0 _ _ _ hbt10
      have q1 := cell_of_row w10 _ 1 _ _ _ hbt10
      have q2 := cell_of_row w10 _ 2 _ _ _ hbt10
      have q3 := cell_of_row w10 _ 3 _ _ _ hbt10
      have q4 := cell_of_row w10 _ 4 _ _ _ hbt10
      have qf := fun j => frozen_of_row w10 _ j _ _ hbt10
      have r0 := cell_of_row w10 _ 0 _ _ _ hbr10
      have r1 := cell_of_row w10 _ 1 _ _ _ hbr10
      have r2 := cell_of_row w10 _ 2 _ _ _ hbr10
      have r3 := cell_of_row w10 _ 3 _ _ _ hbr10
      have rf := fun j => frozen_of_row w10 _ j _ _ hbr10
      have hrr := fun w' (k : Below w10.heap.size w10 w') => refRecv_ok 1 A' [⟨⟨m0, m1, m2, m3, m4⟩, zs⟩] c' 0 1 ⟨m0, m1, m2, m3, m4⟩ w' (hM10.below k) (by simp) (by simp) rfl
      simp only [List.length_singleton] at hrr
      have Hrr := Lib.hid hrr; have HB10 := Lib.hid hB10; have Hbr10 := Lib.hid hbr10; clear hrr hB10 hbr10 hbt10 hM10 hk10 Hbt9 HB9 Hr hl10
      go_wp2_with fail
      refine (Hrr.out _ ?_).mono ?_
      · (focus (repeat' (first | (with_reducible exact Below.refl _ _) | (with_reducible assumption) | (with_reducible refine Below.setCell ?_ ?_ _) | (with_reducible refine Below.alloc ?_ ?_ _) | (with_reducible refine below_drewN ?_ _) | (with_reducible refine Below.drew ?_) | (with_reducible exact Nat.le_refl _) | omega | (simp; done) | (simp; omega))))
      rintro e w11 ⟨A6, c6, rfl, _, hb11⟩
      have hB11 : Below w10.heap.size w10 w11 := by
        refine Below.trans ?_ (hb11.mono (by simp))
        (focus (repeat' (first | (with_reducible exact Below.refl _ _) | (with_reducible assumption) | (with_reducible refine Below.setCell ?_ ?_ _) | (with_reducible refine Below.alloc ?_ ?_ _) | (with_reducible refine below_drewN ?_ _) | (with_reducible refine Below.drew ?_) | (with_reducible exact Nat.le_refl _) | omega | (simp; done) | (simp; omega))))
      have hbr11 := (hB11.block _ hs16).trans Hbr10.out
      have hs18 : w7.heap.size < w11.heap.size := by have := hB11.size; omega
      clear r0 r1 r2 r3 rf q0 q1 q2 q3 q4 qf
      have r0 := cell_of_row w11 _ 0 _ _ _ hbr11
      have r1 := cell_of_row w11 _ 1 _ _ _ hbr11
      have r2 := cell_of_row w11 _ 2 _ _ _ hbr11
      have r3 := cell_of_row w11 _ 3 _ _ _ hbr11
      have rf := fun j => frozen_of_row w11 _ j _ _ hbr11
      have hbx := box4_set (.int .i64 1) (.slice A' 1 c') (.int .i64 1) (.int .i64 1) hbr11
      have hBx := HB10.out.below hB11
      have hK := box4_keep (w := w11) (b := w7.heap.size) (.int .i64 1) (.slice A' 1 c') (.int .i64 1) (.int .i64 1)
      have hB12 := hBx.setBox (sr' := { (LSt.new 1).send ⟨⟨m0, m1, m2, m3, m4⟩, zs⟩ with recv := 1 }) hK hbx (hBx.hM.keep hK (fun a ha e => (hBx.hA a ha).2.2.2 e)) hBx.hc (fun a ha => ⟨Nat.lt_of_lt_of_le (hBx.hA a ha).1 hK.size, (hBx.hA a ha).2⟩)
      have HB12 := Lib.hid hB12; clear hbx hBx hK hB12 hbr11 hB11 hb11 Hrr HB10 Hbr10
      go_wp2_with fail
      refine (alive18 _).mono ?_
      rintro e w13 ⟨rfl, hb13⟩
      have hB13 := HB12.out.below (Below.trans ((Below.refl _ _).alloc (Nat.le_refl _) _) (hb13.mono (by simp)))
      have hbr13 : w13.heap[w7.heap.size]? = some (.cells #[.int .i64 1, .slice A' 1 c', .int .i64 1, .int .i64 1] 46 (0, 0)) := hB13.hbox
      clear r0 r1 r2 r3 rf
      have r0 := cell_of_row w13 _ 0 _ _ _ hbr13
      have r1 := cell_of_row w13 _ 1 _ _ _ hbr13
      have r2 := cell_of_row w13 _ 2 _ _ _ hbr13
      have r3 := cell_of_row w13 _ 3 _ _ _ hbr13
      have rf := fun j => frozen_of_row w13 _ j _ _ hbr13
      have hsm := hB13.same rfl
      have Hsm := Lib.hid hsm; have HB13 := Lib.hid hB13; clear hsm hB13 hbr13 hb13 HB12
      go_wp2_with fail
      refine Hsm.out.mono ?_
      rintro e w14 ⟨rfl, hb14⟩
      go_wp2_with fail
      go_ret
      exact ⟨rfl, HB13.out.hW.trans (hb14.mono HB13.out.hW.size)⟩
    · have hr := linkRecv_tag W.heap.size (w4.heap.size + 1) g9 _ ⟨t0, t1, t2, t3, t4⟩ w9 hB9.hL (by simp [LSt.send, LSt.new]) ht
      have Hr := Lib.hid hr; have HB9 := Lib.hid hB9; have Hbt9 := Lib.hid hbt9; clear hr hB9 hbt9 hk9 hl9 hg9 Hls HB1 Hbt8
      go_wp2_with fail
      refine Hr.out.mono ?_
      rintro e w10 ⟨rfl, hk10⟩
      have hB10 := HB9.out.below hk10
      have hbt10 := (hk10.block (W.heap.size + 1) hs14).trans Hbt9.out
      have hbr10 : w10.heap[w7.heap.size]? = some (.cells #[.int .i64 1, .slice A' 1 c', .int .i64 0, .int .i64 1] 46 (0, 0)) := hB10.hbox
      have hM10 := hB10.rd
      have hs15 := hk10.size
      have hs16 : w7.heap.size < w10.heap.size := by omega
      have hs17 : W.heap.size + 1 < w10.heap.size := by omega
      clear q0 q1 q2 q3 q4 qf
      have q0 := cell_of_row w10 _ 0 _ _ _ hbt10
      have q1 := cell_of_row w10 _ 1 _ _ _ hbt10
      have q2 := cell_of_row w10 _ 2 _ _ _ hbt10
      have q3 := cell_of_row w10 _ 3 _ _ _ hbt10
      have q4 := cell_of_row w10 _ 4 _ _ _ hbt10
      have qf := fun j => frozen_of_row w10 _ j _ _ hbt10
      have r0 := cell_of_row w10 _ 0 _ _ _ hbr10
      have r1 := cell_of_row w10 _ 1 _ _ _ hbr10
      have r2 := cell_of_row w10 _ 2 _ _ _ hbr10
      have r3 := cell_of_row w10 _ 3 _ _ _ hbr10
      have rf := fun j => frozen_of_row w10 _ j _ _ hbr10
      have hrr := fun w' (k : Below w10.heap.size w10 w') => refRecv_tag 1 A' [⟨⟨m0, m1, m2, m3, m4⟩, zs⟩] c' 0 1 ⟨t0, t1, t2, t3, t4⟩ w' (hM10.below k) (by simp) (by simp) ht
      simp only [List.length_singleton] at hrr
      have Hrr := Lib.hid hrr; have HB10 := Lib.hid hB10; have Hbr10 := Lib.hid hbr10; clear hrr hB10 hbr10 hbt10 hM10 hk10 Hbt9 HB9 Hr ht
      go_wp2_with fail
      refine (Hrr.out _ ?_).mono ?_
      · (focus (repeat' (first | (with_reducible exact Below.refl _ _) | (with_reducible assumption) | (with_reducible refine Below.setCell ?_ ?_ _) | (with_reducible refine Below.alloc ?_ ?_ _) | (with_reducible refine below_drewN ?_ _) | (with_reducible refine Below.drew ?_) | (with_reducible exact Nat.le_refl _) | omega | (simp; done) | (simp; omega))))
      rintro e w11 ⟨rfl, hb11⟩
      have hB11 : Below w10.heap.size w10 w11 := by
        refine Below.trans ?_ (hb11.mono (by simp))
        (focus (repeat' (first | (with_reducible exact Below.refl _ _) | (with_reducible assumption) | (with_reducible refine Below.setCell ?_ ?_ _) | (with_reducible refine Below.alloc ?_ ?_ _) | (with_reducible refine below_drewN ?_ _) | (with_reducible refine Below.drew ?_) | (with_reducible exact Nat.le_refl _) | omega | (simp; done) | (simp; omega))))
      have hbr11 := (hB11.block _ hs16).trans Hbr10.out
      have hs18 : w7.heap.size < w11.heap.size := by have := hB11.size; omega
      clear r0 r1 r2 r3 rf q0 q1 q2 q3 q4 qf
      have r0 := cell_of_row w11 _ 0 _ _ _ hbr11
      have r1 := cell_of_row w11 _ 1 _ _ _ hbr11
      have r2 := cell_of_row w11 _ 2 _ _ _ hbr11
      have r3 := cell_of_row w11 _ 3 _ _ _ hbr11
      have rf := fun j => frozen_of_row w11 _ j _ _ hbr11
      have hbx := box4_set (.int .i64 1) (.slice A' 1 c') (.int .i64 0) (.int .i64 1) hbr11
      have hBx := HB10.out.below hB11
      have hK := box4_keep (w := w11) (b := w7.heap.size) (.int .i64 1) (.slice A' 1 c') (.int .i64 0) (.int .i64 1)
      have hB12 := hBx.setBox (sr' := (LSt.new 1).send ⟨⟨m0, m1, m2, m3, m4⟩, zs⟩) hK hbx (hBx.hM.keep hK (fun a ha e => (hBx.hA a ha).2.2.2 e)) hBx.hc (fun a ha => ⟨Nat.lt_of_lt_of_le (hBx.hA a ha).1 hK.size, (hBx.hA a ha).2⟩)
      have HB12 := Lib.hid hB12; clear hbx hBx hK hB12 hbr11 hB11 hb11 Hrr HB10 Hbr10
      go_wp2_with fail
      refine (alive18 _).mono ?_
      rintro e w13 ⟨rfl, hb13⟩
      have hB13 := HB12.out.below (Below.trans ((Below.refl _ _).alloc (Nat.le_refl _) _) (hb13.mono (by simp)))
      have hbr13 : w13.heap[w7.heap.size]? = some (.cells #[.int .i64 1, .slice A' 1 c', .int .i64 0, .int .i64 1] 46 (0, 0)) := hB13.hbox
      clear r0 r1 r2 r3 rf
      have r0 := cell_of_row w13 _ 0 _ _ _ hbr13
      have r1 := cell_of_row w13 _ 1 _ _ _ hbr13
      have r2 := cell_of_row w13 _ 2 _ _ _ hbr13
      have r3 := cell_of_row w13 _ 3 _ _ _ hbr13
      have rf := fun j => frozen_of_row w13 _ j _ _ hbr13
      have hsm := hB13.same rfl
      have Hsm := Lib.hid hsm; have HB13 := Lib.hid hB13; clear hsm hB13 hbr13 hb13 HB12
      go_wp2_with fail
      refine Hsm.out.mono ?_
      rintro e w14 ⟨rfl, hb14⟩
      go_wp2_with fail
      go_ret
      exact ⟨rfl, HB13.out.hW.trans (hb14.mono HB13.out.hW.size)⟩

set_option maxRecDepth 100000 in
theorem LinkNil_walk {H : Type} {enc : TypeId × Value → H} {base : Nat} {v0 v1 : Value} {d0 d1 : DataW H} {p0 p1 : List MemPlace} (W : World)
    (o0 : Value.okWide Try.prog W .any base 37 v0) (h0 : DataW.Trod enc Try.prog W 0 (fun _ => true) true 37 v0 d0 p0)
    (o1 : Value.okWide Try.prog W .any base 34 v1) (h1 : DataW.Trod enc Try.prog W 0 (fun _ => true) true 34 v1 d1 p1) :
    Calls Try.prog 9 #[v0, v1] W fun e w' => e = .returned (.bool true) ∧ Below W.heap.size W w' := by
  obtain ⟨m0, m1, m2, m3, m4, A, zs, c, rfl, hz, hA⟩ := open_msg o0 h0
  obtain ⟨t0, t1, t2, t3, t4, rfl⟩ := open_tag o1 h1
  exact nil_core m0 m1 m2 m3 m4 t0 t1 t2 t3 t4 A zs c W hA hz
end Go.Proofs.Ytpoeppehijhnnaa
