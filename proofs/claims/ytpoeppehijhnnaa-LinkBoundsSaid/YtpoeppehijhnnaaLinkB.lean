/- The walk of the law LinkBounds. -/
import Derived.Test.YtpoeppehijhnnaaLinkH
namespace Go.Proofs.Ytpoeppehijhnnaa
open Go.RowKit

/-- The loop's relation: k messages were offered. -/
def BndRel (W w : World) (B b C k : Nat) : Prop := ∃ g A c s, BothAt W w B b g A c s s ∧ s.cap = C ∧ s.recv = 0 ∧ s.msgs.length = min k C ∧ s.peak = min k C

theorem bnd_start (W : World) (C : Nat) (hC : 1 ≤ C ∧ C ≤ 1048576) :
    BndRel W ((W.alloc (.cells #[.slice none 0 0, .int .i64 (C : Int), .int .i64 0, .int .i64 0, .int .i64 0] 81)).alloc (.cells #[.int .i64 (C : Int), .slice none 0 0, .int .i64 0, .int .i64 0] 46)) (W.heap.size + 1) W.heap.size C 0 := by
  have hl := linkAt_new W W.heap.size C hC.1 hC.2
  refine ⟨none, none, 0, LSt.new C, ⟨hl.below ((Below.refl _ _).alloc (Nat.le_refl _) _), ?_, MsgsIn.nil _ _ _, by simp [LSt.new], (fun a ha => by cases ha), by (focus (repeat' (first | (with_reducible exact Below.refl _ _) | (with_reducible assumption) | (with_reducible refine Below.setCell ?_ ?_ _) | (with_reducible refine Below.alloc ?_ ?_ _) | (with_reducible refine below_drewN ?_ _) | (with_reducible refine Below.drew ?_) | (with_reducible exact Nat.le_refl _) | omega | (simp; done) | (simp; omega)))), Nat.le_refl _, by omega⟩, rfl, rfl, by simp [LSt.new], by simp [LSt.new]⟩
  unfold RefBox
  have := heap_alloc_new (W.alloc (.cells #[.slice none 0 0, .int .i64 (C : Int), .int .i64 0, .int .i64 0, .int .i64 0] 81)) (.cells #[.int .i64 (C : Int), .slice none 0 0, .int .i64 0, .int .i64 0] 46)
  simpa [LSt.new] using this

theorem bnd_sent {W w : World} {B b C k : Nat} {g : Option Nat} {A : Option Addr} {c : Nat} {s : LSt} {m : Msg} (h : BothAt W w B b g A c (s.send m) (s.send m)) (h1 : s.cap = C) (h2 : s.recv = 0) (h3 : s.msgs.length = min k C) (h4 : s.peak = min k C) (hk : k < C) : BndRel W w B b C (k + 1) :=
  ⟨g, A, c, s.send m, h, h1, h2, by simp [LSt.send]; omega, by simp [LSt.send]; omega⟩

set_option maxHeartbeats 3200000 in
theorem bounds_core (cap n : Int) (W : World) (hn : 0 ≤ n ∧ n ≤ 255) :
    Calls Try.prog 7 #[.int .i64 cap, .int .u8 n] W fun e w' => e = .returned (.bool true) ∧ Below W.heap.size W w' := by
  obtain ⟨hn0, hn1⟩ := hn
  by_cases hc : 1 ≤ cap ∧ cap ≤ 1048576
  · obtain ⟨C, rfl⟩ : ∃ C : Nat, cap = (C : Int) := ⟨cap.toNat, by omega⟩
    have hnew := linkNew C W hc
    have Hnew := Lib.hid hnew; clear hnew
    obtain ⟨hc1, hc2⟩ := hc
    go_enter Try.func7, Try.ntmps7
    go_wp2_with fail
    refine Hnew.out.mono ?_
    rintro e w1 ⟨rfl, rfl⟩
    clear Hnew
    go_wp2_with fail
    go_loopw [28] (fun i wr => ∃ k : Nat, (k : Int) ≤ n ∧ i = .int .i64 k ∧ BndRel W wr (W.heap.size + 1) W.heap.size C k) (fun i _ => n.toNat - (intOf i).toNat)
    case atStart => exact ⟨0, hn0, rfl, bnd_start W C (by omega)⟩
    case round =>
      obtain ⟨k, hk, rfl, hR⟩ := hrel
      obtain ⟨g, A, c, s, hB, hsc, hsr, hsl, hsp⟩ := hR
      have hbox := hB.hbox
      unfold RefBox at hbox
      have e0 : wr.cell? ⟨W.heap.size + 1, 0, none⟩ = some (.int .i64 s.cap) := cell_of_row wr _ 0 _ _ _ hbox
      have e1 : wr.cell? ⟨W.heap.size + 1, 1, none⟩ = some (.slice A s.msgs.length c) := cell_of_row wr _ 1 _ _ _ hbox
      have e2 : wr.cell? ⟨W.heap.size + 1, 2, none⟩ = some (.int .i64 s.recv) := cell_of_row wr _ 2 _ _ _ hbox
      have e3 : wr.cell? ⟨W.heap.size + 1, 3, none⟩ = some (.int .i64 s.peak) := cell_of_row wr _ 3 _ _ _ hbox
      have hBs : W.heap.size + 1 < wr.heap.size := lt_of_block hbox
      have ef := fun j => frozen_of_row wr _ j _ _ hbox
      have HB := Lib.hid hB; have Hsc := Lib.hid hsc; have Hsr := Lib.hid hsr; have Hsl := Lib.hid hsl; have Hsp := Lib.hid hsp
      clear hB hsc hsr hsl hsp hbox
      by_cases hlt : (k : Int) < n
      · by_cases hroom : k < C
        · have hsend := fun w' (q : BothAt W w' (W.heap.size + 1) W.heap.size g A c s s) => refSend W s.cap A s.msgs c s.recv s.peak ⟨0, 0, 0, 0, k⟩ none [] 0 w' (by rw [Hsr.out]; omega) (by rw [Hsl.out]; omega) (by rw [Hsr.out, Hsl.out, Hsc.out]; omega) q.hM (Rd.nil _ _)
          have Hsend := Lib.hid hsend; clear hsend
          go_wp2_with fail
          refine (Hsend.out _ (HB.out.below ?_)).mono ?_
          · (focus (repeat' (first | (with_reducible exact Below.refl _ _) | (with_reducible assumption) | (with_reducible refine Below.setCell ?_ ?_ _) | (with_reducible refine Below.alloc ?_ ?_ _) | (with_reducible refine below_drewN ?_ _) | (with_reducible refine Below.drew ?_) | (with_reducible exact Nat.le_refl _) | omega | (simp; done) | (simp; omega))))
          rintro e w2 ⟨A', c', P, hP, rfl, ⟨hM, hc', hA'⟩, hb2⟩
          obtain ⟨N, hN⟩ : ∃ N, (s.msgs ++ [(⟨⟨0, 0, 0, 0, k⟩, []⟩ : Msg)]).length = N := ⟨_, rfl⟩
          rw [hN]
          have hB2 : Below wr.heap.size wr w2 := by
            refine Below.trans ?_ (hb2.mono (by simp))
            (focus (repeat' (first | (with_reducible exact Below.refl _ _) | (with_reducible assumption) | (with_reducible refine Below.setCell ?_ ?_ _) | (with_reducible refine Below.alloc ?_ ?_ _) | (with_reducible refine below_drewN ?_ _) | (with_reducible refine Below.drew ?_) | (with_reducible exact Nat.le_refl _) | omega | (simp; done) | (simp; omega))))
          have hmsg : w2.heap[wr.heap.size]? = some (.cells #[.int .i64 0, .int .i64 0, .int .i64 0, .int .i64 0, .int .i64 k, .slice none 0 0] 37 (0, 0)) := by
            rw [hb2.block _ (by simp)]
            exact heap_alloc_new wr _
          have hbx2 := (hB2.block _ hBs).trans HB.out.hbox
          have d0 := cell_of_row w2 _ 0 _ _ _ hbx2
          have d1 := cell_of_row w2 _ 1 _ _ _ hbx2
          have d2 := cell_of_row w2 _ 2 _ _ _ hbx2
          have d3 := cell_of_row w2 _ 3 _ _ _ hbx2
          have df := fun j => frozen_of_row w2 _ j _ _ hbx2
          have m0 := cell_of_row w2 _ 0 _ _ _ hmsg
          have m1 := cell_of_row w2 _ 1 _ _ _ hmsg
          have m2 := cell_of_row w2 _ 2 _ _ _ hmsg
          have m3 := cell_of_row w2 _ 3 _ _ _ hmsg
          have m4 := cell_of_row w2 _ 4 _ _ _ hmsg
          have m5 := cell_of_row w2 _ 5 _ _ _ hmsg
          have mf := fun j => frozen_of_row w2 _ j _ _ hmsg
          have hs2 : wr.heap.size < w2.heap.size := lt_of_block hmsg
          have hs3 : W.heap.size + 1 < w2.heap.size := by omega
          have hs4 : W.heap.size + 1 < w2.heap.size + 1 := by omega
          have hne1 : ¬ (W.heap.size + 1 = wr.heap.size) := by omega
          have hne2 : ¬ (wr.heap.size = W.heap.size + 1) := by omega
          have hne3 : ¬ (W.heap.size + 1 = w2.heap.size) := by omega
          have hsend2 := fun w' (q : BothAt W w' (W.heap.size + 1) W.heap.size g A' c' s (s.send ⟨⟨0, 0, 0, 0, k⟩, []⟩)) => linkSend W.heap.size W.heap.size g s ⟨0, 0, 0, 0, k⟩ none [] 0 w' q.hL (by rw [Hsr.out, Hsl.out, Hsc.out]; omega) (by rw [Hsl.out]; omega) (by have := q.hW.size; omega) (Rd.nil _ _) (by simp)
          simp only [List.length_nil] at hsend2
          have Hsend2 := Lib.hid hsend2; have HP := Lib.hid hP; have HN := Lib.hid hN; have HM := Lib.hid hM; have Hc' := Lib.hid hc'; have HA' := Lib.hid hA'; have HB2 := Lib.hid hB2; have Hbx2 := Lib.hid hbx2
          clear hsend2 hP hN hM hc' hA' hB2 hb2 hbx2 hmsg Hsend e0 e1 e2 e3 ef
          go_wp2_with fail
          have h4 := box4_set (.int .i64 s.cap) (.slice A' N c') (.int .i64 s.recv) (.int .i64 P) Hbx2.out
          have hbx4 : RefBox (((((w2.setCell ⟨W.heap.size + 1, 0, none⟩ (.int .i64 s.cap)).setCell ⟨W.heap.size + 1, 1, none⟩ (.slice A' N c')).setCell ⟨W.heap.size + 1, 2, none⟩ (.int .i64 s.recv)).setCell ⟨W.heap.size + 1, 3, none⟩ (.int .i64 P)).alloc (.cells #[.int .i64 s.cap, .slice A' N c', .int .i64 s.recv, .int .i64 P] 46)) (W.heap.size + 1) A' c' (s.send ⟨⟨0, 0, 0, 0, k⟩, []⟩) := by
            unfold RefBox
            rw [show (s.send ⟨⟨0, 0, 0, 0, k⟩, []⟩).msgs.length = N from HN.out, show (((s.send ⟨⟨0, 0, 0, 0, k⟩, []⟩).peak : Nat) : Int) = P from HP.out.symm]
            exact (Below.heap_alloc _ _ _ (lt_of_block h4)).trans h4
          have hB3 := HB.out.refSent HB2.out (by simp [LSt.send]) HM.out Hc'.out (fun a ha => by have := HA'.out a ha; simp at this; omega) (by (focus (repeat' (first | (with_reducible exact Keep.refl _ _) | (with_reducible assumption) | (with_reducible refine Keep.setCell ?_ _ ?_ _) | (with_reducible refine Keep.alloc ?_ _) | (with_reducible refine Keep.drewN ?_ _) | (with_reducible refine Keep.drew ?_) | (with_reducible exact Or.inr (linkS_b _ _)) | (with_reducible exact Or.inr (linkS_g _ _)) | (refine Or.inr ?_; first | rfl | (simp; done) | omega) | (refine Or.inl ?_; first | omega | (simp; done) | (simp; omega)))))) hbx4
          have HB3 := Lib.hid hB3; clear h4 hbx4 hB3
          with_reducible refine (Hsend2.out _ HB3.out).mono ?_
          rintro e w4 ⟨rfl, g4, hl4, hk4, hg4⟩
          have HB4 := Lib.hid (HB3.out.link hk4 hl4 hg4); clear hk4 hl4 hg4
          go_wp2_with fail
          go_roundw
          case rel => exact ⟨k + 1, by omega, by go_num, bnd_sent HB4.out Hsc.out Hsr.out Hsl.out Hsp.out hroom⟩
          case measure => simp [intOf]; omega
        · have hsend := fun w' => refSend_full s.cap A s.msgs.length c s.recv s.peak #[.int .i64 0, .int .i64 0, .int .i64 0, .int .i64 0, .int .i64 k, .slice none 0 0] w' (by rw [Hsr.out]; omega) (by rw [Hsl.out]; omega) (by rw [Hsr.out, Hsl.out, Hsc.out]; omega)
          have Hsend := Lib.hid hsend; clear hsend
          go_wp2_with fail
          refine (Hsend.out _).mono ?_
          rintro e w2 ⟨rfl, hb2⟩
          have hB2 : Below wr.heap.size wr w2 := by
            refine Below.trans ?_ (hb2.mono (by simp))
            (focus (repeat' (first | (with_reducible exact Below.refl _ _) | (with_reducible assumption) | (with_reducible refine Below.setCell ?_ ?_ _) | (with_reducible refine Below.alloc ?_ ?_ _) | (with_reducible refine below_drewN ?_ _) | (with_reducible refine Below.drew ?_) | (with_reducible exact Nat.le_refl _) | omega | (simp; done) | (simp; omega))))
          have hmsg : w2.heap[wr.heap.size]? = some (.cells #[.int .i64 0, .int .i64 0, .int .i64 0, .int .i64 0, .int .i64 k, .slice none 0 0] 37 (0, 0)) := by
            rw [hb2.block _ (by simp)]
            exact heap_alloc_new wr _
          have hbx2 := (hB2.block _ hBs).trans HB.out.hbox
          have d0 := cell_of_row w2 _ 0 _ _ _ hbx2
          have d1 := cell_of_row w2 _ 1 _ _ _ hbx2
          have d2 := cell_of_row w2 _ 2 _ _ _ hbx2
          have d3 := cell_of_row w2 _ 3 _ _ _ hbx2
          have df := fun j => frozen_of_row w2 _ j _ _ hbx2
          have m0 := cell_of_row w2 _ 0 _ _ _ hmsg
          have m1 := cell_of_row w2 _ 1 _ _ _ hmsg
          have m2 := cell_of_row w2 _ 2 _ _ _ hmsg
          have m3 := cell_of_row w2 _ 3 _ _ _ hmsg
          have m4 := cell_of_row w2 _ 4 _ _ _ hmsg
          have m5 := cell_of_row w2 _ 5 _ _ _ hmsg
          have mf := fun j => frozen_of_row w2 _ j _ _ hmsg
          have hs2 : wr.heap.size < w2.heap.size := lt_of_block hmsg
          have hs3 : W.heap.size + 1 < w2.heap.size := by omega
          have hs4 : W.heap.size + 1 < w2.heap.size + 1 := by omega
          have hne1 : ¬ (W.heap.size + 1 = wr.heap.size) := by omega
          have hne2 : ¬ (wr.heap.size = W.heap.size + 1) := by omega
          have hne3 : ¬ (W.heap.size + 1 = w2.heap.size) := by omega
          have hsend2 := fun w' (q : BothAt W w' (W.heap.size + 1) W.heap.size g A c s s) => linkSend_full W.heap.size W.heap.size g s #[.int .i64 0, .int .i64 0, .int .i64 0, .int .i64 0, .int .i64 k, .slice none 0 0] w' q.hL (by have := q.hL.ok.sr; rw [Hsr.out, Hsl.out, Hsc.out] at *; omega)
          have Hsend2 := Lib.hid hsend2; have HB2 := Lib.hid hB2; have Hbx2 := Lib.hid hbx2
          clear hsend2 hB2 hb2 hbx2 hmsg Hsend e0 e1 e2 e3 ef
          go_wp2_with fail
          have h4 := box4_set (.int .i64 s.cap) (.slice A s.msgs.length c) (.int .i64 s.recv) (.int .i64 s.peak) Hbx2.out
          have hK : Keep (fun i => i = W.heap.size + 1) w2 _ := box4_keep (b := W.heap.size + 1) (.int .i64 s.cap) (.slice A s.msgs.length c) (.int .i64 s.recv) (.int .i64 s.peak)
          have hB3 := (HB.out.below HB2.out).setBox hK h4 (MsgsIn.keep (HB.out.below HB2.out).hM hK (fun a ha e => (HB.out.hA a ha).2.2.2 e)) HB.out.hc (fun a ha => ⟨Nat.lt_of_lt_of_le (HB.out.hA a ha).1 (Nat.le_trans HB2.out.size hK.size), (HB.out.hA a ha).2⟩)
          have hB4 := hB3.below ((Below.refl _ _).alloc (Nat.le_refl _) (.cells #[.int .i64 s.cap, .slice A s.msgs.length c, .int .i64 s.recv, .int .i64 s.peak] 46))
          have HB3 := Lib.hid hB4; clear h4 hK hB3 hB4
          with_reducible refine (Hsend2.out _ HB3.out).mono ?_
          rintro e w4 ⟨rfl, hb4⟩
          have HB4 := Lib.hid (HB3.out.below hb4)
          go_wp2_with fail
          go_roundw
          case rel =>
            refine ⟨k + 1, by omega, by go_num, g, A, c, s, HB4.out, Hsc.out, Hsr.out, ?_, ?_⟩
            · rw [Hsl.out]; omega
            · rw [Hsp.out]; omega
          case measure => simp [intOf]; omega
      · have hkn : (k : Int) = n := by omega
        have hsame := fun w' (q : BothAt W w' (W.heap.size + 1) W.heap.size g A c s s) => q.same rfl
        have hcells : ∃ ring, LinkCells wr W.heap.size ring s.cap s.msgs.length s.recv s.peak := by obtain ⟨ring, rows, hc, _⟩ := HB.out.hL.ex; exact ⟨ring, hc⟩
        obtain ⟨ring, hcells⟩ := hcells
        have hb := lt_of_block hcells
        have hpeak := fun w' (q : Below wr.heap.size wr w') => linkPeak W.heap.size ring s.cap s.msgs.length s.recv s.peak w' (hcells.same (q.block _ hb))
        have hpk : (s.peak : Int) = ((min k C : Nat) : Int) := by rw [Hsp.out]
        have hpe : ((s.peak : Int) == min n (C : Int)) = true := by rw [hpk, ← hkn, beq_iff_eq]; omega
        have Hsame := Lib.hid hsame; have Hpeak := Lib.hid hpeak; have Hkn := Lib.hid hkn; have Hpk := Lib.hid hpk
        clear hsame hpeak hcells hkn hpk
        go_wp2_with fail
        refine (alive18 _).mono ?_
        rintro e w5 ⟨rfl, hb5⟩
        have hbx5 := (hb5.block _ hBs).trans HB.out.hbox
        have d0 := cell_of_row w5 _ 0 _ _ _ hbx5
        have d1 := cell_of_row w5 _ 1 _ _ _ hbx5
        have d2 := cell_of_row w5 _ 2 _ _ _ hbx5
        have d3 := cell_of_row w5 _ 3 _ _ _ hbx5
        have df := fun j => frozen_of_row w5 _ j _ _ hbx5
        have HB5 := Lib.hid hb5; clear hb5 hbx5 e0 e1 e2 e3 ef
        go_wp2_with fail
        refine (Hsame.out _ (HB.out.below HB5.out)).mono ?_
        rintro e w6 ⟨rfl, hb6⟩
        have HB6 := Lib.hid (HB5.out.trans (hb6.mono HB5.out.size)); clear hb6
        go_wp2_with fail
        refine (Hpeak.out _ HB6.out).mono ?_
        rintro e w7 ⟨rfl, rfl⟩
        go_wp2_with fail
        all_goals
          go_ret
          refine ⟨?_, HB.out.hW.trans (HB6.out.mono HB.out.hW.size)⟩
          have hk1 := Hpk.out
          have hk2 := Hkn.out
          refine ret_bool ?_
          first | (simp; omega) | (simp [go_sem]; omega)
  · rcases (show cap < 1 ∨ 1048576 < cap by omega) with h1 | h1
    all_goals
      have hnew := linkNew_no cap W (by omega)
      have Hnew := Lib.hid hnew; clear hnew hc
      go_enter Try.func7, Try.ntmps7
      go_wp2_with fail
      refine Hnew.out.mono ?_
      rintro e w1 ⟨rfl, rfl⟩
      clear Hnew
      go_wp2_with fail
      refine (alive18 _).mono ?_
      rintro e w5 ⟨rfl, hb5⟩
      go_wp2_with fail
      go_ret
      exact ⟨rfl, hb5⟩

set_option maxRecDepth 100000 in
theorem LinkBounds_walk {H : Type} {enc : TypeId × Value → H} {base : Nat} {v0 v1 : Value} {d0 d1 : DataW H} {p0 p1 : List MemPlace} (W : World)
    (o0 : Value.okWide Try.prog W .any base 3 v0) (h0 : DataW.Trod enc Try.prog W 0 (fun _ => true) true 3 v0 d0 p0)
    (o1 : Value.okWide Try.prog W .any base 5 v1) (h1 : DataW.Trod enc Try.prog W 0 (fun _ => true) true 5 v1 d1 p1) :
    Calls Try.prog 7 #[v0, v1] W fun e w' => e = .returned (.bool true) ∧ Below W.heap.size W w' := by
  obtain ⟨m, rfl, rfl, rfl, wm⟩ := Go.ChangeShapes.open_int Try.underlying3 o0 h0
  obtain ⟨n, rfl, rfl, rfl, wn⟩ := Go.ChangeShapes.open_int Try.underlying5 o1 h1
  exact bounds_core m n W (by simpa [Lit.wf, IntKind.min, IntKind.max, IntKind.signed, IntKind.bits] using wn)
end Go.Proofs.Ytpoeppehijhnnaa
