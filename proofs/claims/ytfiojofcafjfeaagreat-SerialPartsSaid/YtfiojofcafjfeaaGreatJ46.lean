/- The walk of sakiaref09.Loss. No condition. -/
import Derived.Test.YtfiojofcafjfeaaGreatJ23
set_option linter.unusedSimpArgs false
set_option linter.unusedVariables false
namespace Go.Proofs.YtfiojofcafjfeaaGreat
open Go.RowKit

set_option maxRecDepth 100000 in
set_option maxHeartbeats 2000000 in
theorem refloss_any (As Ap X Y : Option Addr) (sz ps x y : List Int) (cs cp cx cy : Nat) (q : Int) (w : World) (h : RNet w As Ap sz ps cs) (hX : Rd w X (nums .i64 x)) (hx : x.length = szN sz 0) (wx : W64 x) (hcx : x.length ≤ cx) (hY : Rd w Y (nums .i64 y)) (hy : y.length = szN sz (sz.length - 1)) :
    Calls Tryz.prog 63 #[.agg #[.slice As sz.length cs, .slice Ap ps.length cp, .int .i64 q], .slice X x.length cx, .slice Y y.length cy] w fun e w' => e = .returned (.int .i64 (lossN sz ps q x y)) ∧ Below w.heap.size w w' := by
  have hl16 := h.hg.1.1
  have hmb := (h.hg.1.at (k := sz.length - 1) (by omega)).2.1
  have hla := fun w' => rlast_any As Ap sz.length ps.length cs cp q w' (by omega)
  have htr := fun w' (hb : Below w.heap.size w w') => rtrace_any As Ap X sz ps x cs cp cx q w' (h.below hb) (hX.below hb) hx wx hcx
  have her := fun V cv vals w' (hb : Below w.heap.size w w') (hV : Rd w' V vals) (hva : VecsAt w' vals sz.length (valL sz ps q x)) => rerr_any As Ap Y V sz ps x y cs cp cy cv q vals hx wx hy 0 w' (by omega) (h.below hb) (hY.below hb) hV hva
  have hel := errD_len (sz := sz) (ps := ps) (q := q) (x := x) (y := y) hx 0
  have wel := errD_W64 sz ps q x y 0
  have hlo : lossN sz ps q x y = dotN (errD sz ps q x y 0) (errD sz ps q x y 0) q (errD sz ps q x y 0).length := rfl
  rw [Nat.sub_zero, ← hy] at hel
  simp only [Nat.sub_zero, ← hy] at her
  rw [hlo, hel]
  obtain ⟨ev, hev⟩ : ∃ ev, errD sz ps q x y 0 = ev := ⟨_, rfl⟩
  obtain ⟨L, hL⟩ : ∃ L, sz.length = L := ⟨_, rfl⟩
  obtain ⟨m, hm⟩ : ∃ m, ps.length = m := ⟨_, rfl⟩
  obtain ⟨Y0, hY0⟩ : ∃ Y0, y.length = Y0 := ⟨_, rfl⟩
  obtain ⟨X0, hX0⟩ : ∃ X0, x.length = X0 := ⟨_, rfl⟩
  rw [hev] at hel wel her ⊢
  rw [hL] at hla htr her ⊢
  rw [hm] at hla htr her ⊢
  rw [hY0] at hel her ⊢
  rw [← hy, hY0] at hmb
  rw [hX0] at htr ⊢
  have Hla := Lib.hid hla; have Htr := Lib.hid htr; have Her := Lib.hid her; have Hel := Lib.hid hel; have WEL := Lib.hid wel
  clear hla htr her hel wel h hX hx wx hcx hY hy hlo hev hL hm hY0 hX0
  go_enter Tryz.func63, Tryz.ntmps63
  go_wp2_with fail
  obtain ⟨V0, hV0⟩ : ∃ V0, V0 = w.alloc (.cells #[.slice As L cs, .slice Ap m cp, .int .i64 q] 112) := ⟨_, rfl⟩
  have hbx0 : V0.heap[w.heap.size]? = some (.cells #[.slice As L cs, .slice Ap m cp, .int .i64 q] 112 (0, 0)) := by rw [hV0]; exact heap_alloc_new w _
  have hB0 : Below w.heap.size w V0 := by rw [hV0]; exact (Below.refl _ w).alloc (Nat.le_refl _) _
  rw [← hV0]
  clear hV0
  have y0 := cell_of_row V0 _ 0 _ _ _ hbx0
  have y1 := cell_of_row V0 _ 1 _ _ _ hbx0
  have y2 := cell_of_row V0 _ 2 _ _ _ hbx0
  have yf := fun j => frozen_of_row V0 _ j _ _ hbx0
  have Hbx0 := Lib.hid hbx0; have HB0 := Lib.hid hB0; clear hbx0 hB0
  have hSw : (fun w' : World => w'.cell? ⟨w.heap.size, 0, none⟩ = some (.slice As L cs) ∧ w'.cell? ⟨w.heap.size, 1, none⟩ = some (.slice Ap m cp) ∧ w'.cell? ⟨w.heap.size, 2, none⟩ = some (.int .i64 q)) V0.drew := ⟨y0, y1, y2⟩
  refine wp_region_held (S := fun w' : World => w'.cell? ⟨w.heap.size, 0, none⟩ = some (.slice As L cs) ∧ w'.cell? ⟨w.heap.size, 1, none⟩ = some (.slice Ap m cp) ∧ w'.cell? ⟨w.heap.size, 2, none⟩ = some (.int .i64 q)) (by kernel_rfl) ?_
  change wpAnyH _ _ _ _ _ _ _ _ V0.drew
  refine wpAnyH_take (i := 0) (v := ?_) rfl (by kernel_rfl) (by kernel_rfl) (by kernel_rfl) (fun _ _ _ h => h) (Or.inl ⟨by rfl, ?_⟩) hSw ?_
  rotate_left
  · intro w9 hS9; (try dsimp only at hS9); obtain ⟨s1, s2, s3⟩ := hS9; go_simp; (try with_reducible rfl)
  simp only [List.getElem_toArray, List.getElem_cons_succ, List.getElem_cons_zero, Act.put, List.setIfInBounds_toArray, List.set_cons_zero, List.set_cons_succ]
  refine wpAnyH_take (i := 1) (v := ?_) rfl (by kernel_rfl) (by kernel_rfl) (by kernel_rfl) (fun _ _ _ h => h) (Or.inl ⟨by rfl, ?_⟩) hSw ?_
  rotate_left
  · intro w9 hS9; (try dsimp only at hS9); obtain ⟨s1, s2, s3⟩ := hS9; go_simp; (try with_reducible rfl)
  simp only [List.getElem_toArray, List.getElem_cons_succ, List.getElem_cons_zero, Act.put, List.setIfInBounds_toArray, List.set_cons_zero, List.set_cons_succ]
  refine wpAnyH_take (i := 3) (v := ?_) rfl (by kernel_rfl) (by kernel_rfl) (by kernel_rfl) (fun _ _ _ h => h) (Or.inl ⟨by rfl, ?_⟩) hSw ?_
  rotate_left
  · intro w9 hS9; (try dsimp only at hS9); obtain ⟨s1, s2, s3⟩ := hS9; go_simp; (try with_reducible rfl)
  simp only [List.getElem_toArray, List.getElem_cons_succ, List.getElem_cons_zero, Act.put, List.setIfInBounds_toArray, List.set_cons_zero, List.set_cons_succ]
  refine wpAnyH_take (i := 4) (v := ?_) rfl (by kernel_rfl) (by kernel_rfl) (by kernel_rfl) (fun _ _ _ h => h) (Or.inl ⟨by rfl, ?_⟩) hSw ?_
  rotate_left
  · intro w9 hS9; (try dsimp only at hS9); obtain ⟨s1, s2, s3⟩ := hS9; go_simp; (try with_reducible rfl)
  simp only [List.getElem_toArray, List.getElem_cons_succ, List.getElem_cons_zero, Act.put, List.setIfInBounds_toArray, List.set_cons_zero, List.set_cons_succ]
  refine wpAnyH_take (i := 6) (v := ?_) rfl (by kernel_rfl) (by kernel_rfl) (by kernel_rfl) (fun _ _ _ h => h) (Or.inl ⟨by rfl, ?_⟩) hSw ?_
  rotate_left
  · intro w9 hS9; (try dsimp only at hS9); obtain ⟨s1, s2, s3⟩ := hS9; go_simp; (try with_reducible rfl)
  simp only [List.getElem_toArray, List.getElem_cons_succ, List.getElem_cons_zero, Act.put, List.setIfInBounds_toArray, List.set_cons_zero, List.set_cons_succ]
  refine wpAnyH_ready (rs := [2]) (by kernel_rfl) (by simp) ?_
  refine AllReadyH.cons rfl (fun K hK => ?_) AllReadyH.nil
  simp only [List.getElem_toArray, List.getElem_cons_succ, List.getElem_cons_zero]
  go_simp
  refine (Hla.out _).mono ?_
  rintro e w1 ⟨rfl, hb1⟩
  have hB1 := HB0.out.drew.trans (hb1.mono HB0.out.size)
  have hS1 := And.intro (cell_below hb1 y0) (And.intro (cell_below hb1 y1) (cell_below hb1 y2))
  have hbx1 := (hb1.block _ (lt_of_block (w := V0.drew) Hbx0.out)).trans Hbx0.out
  have HB1 := Lib.hid hB1; have Hbx1 := Lib.hid hbx1; clear hb1 hB1 hbx1 hSw
  dsimp only
  refine hK.out _ _ hS1 (fun hSw => ?_)
  clear hK K hS1
  refine wpAnyH_ready (rs := [5]) (by kernel_rfl) (by simp) ?_
  refine AllReadyH.cons rfl (fun K hK => ?_) AllReadyH.nil
  simp only [List.getElem_toArray, List.getElem_cons_succ, List.getElem_cons_zero]
  go_simp
  refine (Htr.out _ HB1.out).mono ?_
  rintro e w2 ⟨V, cv, vals, rfl, hV, hva, hcv, hb2⟩
  have hB2 := HB1.out.trans (hb2.mono HB1.out.size)
  have hS2 := And.intro (cell_below hb2 hSw.1) (And.intro (cell_below hb2 hSw.2.1) (cell_below hb2 hSw.2.2))
  have hbx2 := (hb2.block _ (lt_of_block Hbx1.out)).trans Hbx1.out
  have her2 := Her.out V cv vals w2 hB2 hV hva
  have HB2 := Lib.hid hB2; have Hbx2 := Lib.hid hbx2; have Her2 := Lib.hid her2; clear hb2 hB2 hbx2 hSw hV hva hcv her2
  dsimp only
  refine hK.out _ _ hS2 (fun hSw => ?_)
  clear hK K hS2
  refine wpAnyH_ready (rs := [7]) (by kernel_rfl) (by simp) ?_
  refine AllReadyH.cons rfl (fun K hK => ?_) AllReadyH.nil
  simp only [List.getElem_toArray, List.getElem_cons_succ, List.getElem_cons_zero]
  go_simp
  refine Her2.out.mono ?_
  rintro e w3 ⟨E, ce, rfl, ho3, hb3⟩
  have hB3 := HB2.out.trans (hb3.mono HB2.out.size)
  have hS3 := And.intro (cell_below hb3 hSw.1) (And.intro (cell_below hb3 hSw.2.1) (cell_below hb3 hSw.2.2))
  have hrd := Rd.own ho3
  have y2' := hS3.2.2
  have hl3 : w.heap.size < w3.heap.size := lt_of_cell y2'
  have HB3 := Lib.hid hB3; have Hrd := Lib.hid hrd; clear hb3 hB3 hrd ho3 hSw
  dsimp only
  refine hK.out _ _ hS3 (fun hSw => ?_)
  clear hK K hS3
  refine wpAnyH_take (i := 8) (v := ?_) rfl (by kernel_rfl) (by kernel_rfl) (by kernel_rfl) (fun _ _ _ h => h) (Or.inl ⟨by rfl, ?_⟩) hSw ?_
  rotate_left
  · intro w9 hS9; (try dsimp only at hS9); obtain ⟨s1, s2, s3⟩ := hS9; go_simp; (try with_reducible rfl)
  simp only [List.getElem_toArray, List.getElem_cons_succ, List.getElem_cons_zero, Act.put, List.setIfInBounds_toArray, List.set_cons_zero, List.set_cons_succ]
  refine wpAnyH_done (by kernel_rfl) ?_ _
  clear hSw y0 y1 y2 yf
  go_wp2_with fail
  go_loopw [8, 9] (fun s i wr => ∃ k : Nat, k ≤ Y0 ∧ i = .int .i64 k ∧ s = .int .i64 (dotN ev ev q k) ∧ Below w3.heap.size w3 wr) (fun _ i _ => Y0 - (intOf i).toNat)
  case atStart => exact ⟨0, Nat.zero_le _, rfl, rfl, Below.refl _ _⟩
  case round =>
    obtain ⟨k, hk, rfl, rfl, hW⟩ := hrel
    by_cases hlt : k < Y0
    · obtain ⟨be, oe, rfl, pe⟩ := Hrd.out.num (show k < ev.length by rw [Hel.out]; exact hlt)
      have per := (hW.cell (p := ⟨be, oe + k, none⟩) (lt_of_cell pe)).trans pe
      have y2r := (hW.cell (p := ⟨w.heap.size, 2, none⟩) hl3).trans y2'
      have hmu := fun w' => refMul (nth ev k) (nth ev k) q w' (WEL.out.nth _) (WEL.out.nth _)
      have Hmu := Lib.hid hmu; have HW := Lib.hid hW; clear hmu hW pe
      have hki : (k : Int) < Y0 := by omega
      go_wp2_with fail
      go_region_held3 (fun w' => w'.cell? ⟨be, oe + k, none⟩ = some (.int .i64 (nth ev k)) ∧ w'.cell? ⟨w.heap.size, 2, none⟩ = some (.int .i64 q)) (simp [go_sem, *]) ((go_at_call 68; refine (Hmu.out _).mono ?_; rintro e w4 ⟨rfl, rfl⟩))
      go_wp2_with fail
      go_roundw
      case rel => exact ⟨k + 1, by omega, by go_num, by rw [IntKind.wrap_i64, dotN, wrap64], HW.out.drew⟩
      case measure => simp [intOf]; omega
    · obtain rfl : k = Y0 := by omega
      have HW := Lib.hid hW; clear hW
      go_wp2_with fail
      go_ret
      exact ⟨rfl, HB3.out.trans (HW.out.mono HB3.out.size)⟩
end Go.Proofs.YtfiojofcafjfeaaGreat
