/- The walks of package sgd: Clone, Start, Next. No condition. -/
import Derived.Test.YtfiojofcafjfeaaGreatJ26
import Derived.Test.YtfiojofcafjfeaaGreatJ14
set_option linter.unusedSimpArgs false
set_option linter.unusedVariables false
namespace Go.Proofs.YtfiojofcafjfeaaGreat
open Go.RowKit

set_option maxRecDepth 100000 in
set_option maxHeartbeats 1000000 in
theorem stclone_any (A B : Option Addr) (n c d : Nat) (ps ms : List Int) (w : World) (hA : Rd w A (nums .i64 ps)) (hB : Rd w B (nums .i64 ms)) (hpl : ps.length = n) (hml : ms.length = n) (hn : n ≤ 1048576) :
    Calls Tryz.prog 57 #[.agg #[.slice A n c, .slice B n d]] w fun e w' => ∃ A1 c1 A2 c2, e = .returned (.agg #[.slice A1 n c1, .slice A2 n c2]) ∧ n ≤ c1 ∧ n ≤ c2 ∧ w'.ownsRow w.heap.size 2 1 (.slice A1 n c1) n (nums .i64 ps) ∧ w'.ownsRow w.heap.size 2 1 (.slice A2 n c2) n (nums .i64 ms) ∧
      (∀ j, (Value.slice A1 n c1).ownBlock = some j → (Value.slice A2 n c2).ownBlock ≠ some j) ∧ Below w.heap.size w w' := by
  have hcx := fun w' (k : Below w.heap.size w w') => vclone_any A ps c w' (hA.below k) (by omega)
  have hcy := fun w' (k : Below w.heap.size w w') => vclone_any B ms d w' (hB.below k) (by omega)
  rw [hpl] at hcx
  rw [hml] at hcy
  have Hcx := Lib.hid hcx; have Hcy := Lib.hid hcy
  clear hcx hcy hpl hml hA hB
  go_enter Tryz.func57, Tryz.ntmps57
  go_wp2_with fail
  have hz := heap_alloc_new (w.alloc (.cells #[.slice A n c, .slice B n d] 71)) (.cells #[.slice none 0 0, .slice none 0 0] 71)
  rw [show (w.alloc (.cells #[.slice A n c, .slice B n d] 71)).heap.size = w.heap.size + 1 by simp] at hz
  have hy := (Below.heap_alloc (w.alloc (.cells #[.slice A n c, .slice B n d] 71)) (.cells #[.slice none 0 0, .slice none 0 0] 71) w.heap.size (by simp)).trans (heap_alloc_new w _)
  have hB0 : Below w.heap.size w ((w.alloc (.cells #[.slice A n c, .slice B n d] 71)).alloc (.cells #[.slice none 0 0, .slice none 0 0] 71)) := ((Below.refl _ w).alloc (Nat.le_refl _) _).alloc (by simp) _
  have hs0 : ((w.alloc (.cells #[.slice A n c, .slice B n d] 71)).alloc (.cells #[.slice none 0 0, .slice none 0 0] 71)).heap.size = w.heap.size + 2 := by simp
  obtain ⟨W0, hW0⟩ : ∃ W0, W0 = (w.alloc (.cells #[.slice A n c, .slice B n d] 71)).alloc (.cells #[.slice none 0 0, .slice none 0 0] 71) := ⟨_, rfl⟩
  rw [← hW0] at hz hy hB0 hs0 ⊢
  have y0 := cell_of_row W0 _ 0 _ _ _ hy
  have y1 := cell_of_row W0 _ 1 _ _ _ hy
  have yf := fun j => frozen_of_row W0 _ j _ _ hy
  have Hz := Lib.hid hz; have HB0 := Lib.hid hB0; have Hs0 := Lib.hid hs0
  clear hz hy hB0 hs0 hW0
  have hSw : (fun w' : World => w'.cell? ⟨w.heap.size, 0, none⟩ = some (.slice A n c) ∧ w'.cell? ⟨w.heap.size, 1, none⟩ = some (.slice B n d)) W0.drew := ⟨y0, y1⟩
  refine wp_region_X 7 (fun w' : World => w'.cell? ⟨w.heap.size, 0, none⟩ = some (.slice A n c) ∧ w'.cell? ⟨w.heap.size, 1, none⟩ = some (.slice B n d)) (by kernel_rfl) ?_
  refine wpAnyX_take (i := 0) (v := ?_) rfl (by kernel_rfl) (by decide) (by kernel_rfl) (by kernel_rfl) (by kernel_rfl) (by kernel_rfl) (fun _ _ _ h => h) (Or.inl ⟨by rfl, ?_⟩) hSw ?_
  rotate_left
  · intro w9 hS9; (try dsimp only at hS9); obtain ⟨s1, s2⟩ := hS9; go_simp; (try with_reducible rfl)
  simp only [List.getElem_toArray, List.getElem_cons_succ, List.getElem_cons_zero, Act.put, List.setIfInBounds_toArray, List.set_cons_zero, List.set_cons_succ]
  refine wpAnyX_take (i := 1) (v := ?_) rfl (by kernel_rfl) (by decide) (by kernel_rfl) (by kernel_rfl) (by kernel_rfl) (by kernel_rfl) (fun _ _ _ h => h) (Or.inl ⟨by rfl, ?_⟩) hSw ?_
  rotate_left
  · intro w9 hS9; (try dsimp only at hS9); obtain ⟨s1, s2⟩ := hS9; go_simp; (try with_reducible rfl)
  simp only [List.getElem_toArray, List.getElem_cons_succ, List.getElem_cons_zero, Act.put, List.setIfInBounds_toArray, List.set_cons_zero, List.set_cons_succ]
  refine wpAnyX_take (i := 3) (v := ?_) rfl (by kernel_rfl) (by decide) (by kernel_rfl) (by kernel_rfl) (by kernel_rfl) (by kernel_rfl) (fun _ _ _ h => h) (Or.inl ⟨by rfl, ?_⟩) hSw ?_
  rotate_left
  · intro w9 hS9; (try dsimp only at hS9); obtain ⟨s1, s2⟩ := hS9; go_simp; (try with_reducible rfl)
  simp only [List.getElem_toArray, List.getElem_cons_succ, List.getElem_cons_zero, Act.put, List.setIfInBounds_toArray, List.set_cons_zero, List.set_cons_succ]
  refine wpAnyX_take (i := 4) (v := ?_) rfl (by kernel_rfl) (by decide) (by kernel_rfl) (by kernel_rfl) (by kernel_rfl) (by kernel_rfl) (fun _ _ _ h => h) (Or.inl ⟨by rfl, ?_⟩) hSw ?_
  rotate_left
  · intro w9 hS9; (try dsimp only at hS9); obtain ⟨s1, s2⟩ := hS9; go_simp; (try with_reducible rfl)
  simp only [List.getElem_toArray, List.getElem_cons_succ, List.getElem_cons_zero, Act.put, List.setIfInBounds_toArray, List.set_cons_zero, List.set_cons_succ]
  refine wpAnyX_ready (rs := [2]) (by kernel_rfl) (by simp) ?_
  refine AllReadyX.cons rfl (fun K hK => ?_) AllReadyX.nil
  simp only [List.getElem_toArray, List.getElem_cons_succ, List.getElem_cons_zero]
  go_simp
  refine (Hcx.out _ HB0.out.drew).mono ?_
  rintro e w1 ⟨A1, c1, rfl, hcu, hou, hb1⟩
  have Hcu := Lib.hid hcu; clear hcu
  have hS1 := And.intro (cell_below hb1 hSw.1) (cell_below hb1 hSw.2)
  have hz1 := (hb1.block (w.heap.size + 1) (by simp [Hs0.out])).trans Hz.out
  have hB1 := HB0.out.drew.trans (hb1.mono (by simp [Hs0.out]))
  have hs1 := hb1.size
  simp only [World.size_drew, Hs0.out] at hs1
  have hou := own_base (base' := w.heap.size) hou (by simp [Hs0.out])
  have Hou := Lib.hid hou; have Hz1 := Lib.hid hz1; have HB1 := Lib.hid hB1; clear hou hz1 hB1 hb1 hSw
  dsimp only
  refine hK.out _ _ hS1 (fun hSw => ?_)
  clear hK K hS1
  refine wpAnyX_ready (rs := [5]) (by kernel_rfl) (by simp) ?_
  refine AllReadyX.cons rfl (fun K hK => ?_) AllReadyX.nil
  simp only [List.getElem_toArray, List.getElem_cons_succ, List.getElem_cons_zero]
  go_simp
  refine (Hcy.out _ HB1.out).mono ?_
  rintro e w2 ⟨A2, c2, rfl, hcv, hov, hb2⟩
  have hdis : ∀ j, (Value.slice A1 n c1).ownBlock = some j → (Value.slice A2 n c2).ownBlock ≠ some j := fun j h1 h2 => by have := (Hou.out.lt j h1).2; have := (hov.lt j h2).1; omega
  have Hcv := Lib.hid hcv; have Hdis := Lib.hid hdis; clear hcv hdis
  have hS2 := And.intro (cell_below hb2 hSw.1) (cell_below hb2 hSw.2)
  have hz2 := (hb2.block (w.heap.size + 1) (by omega)).trans Hz1.out
  have hB2 := HB1.out.trans (hb2.mono HB1.out.size)
  have hs2 := hb2.size
  have hov := own_base (base' := w.heap.size) hov HB1.out.size
  have hou2 := own_below Hou.out hb2
  have z0 := cell_of_row w2 _ 0 _ _ _ hz2
  have z1 := cell_of_row w2 _ 1 _ _ _ hz2
  have zf := fun j => frozen_of_row w2 _ j _ _ hz2
  have l2 : w.heap.size + 1 < w2.heap.size := lt_of_block hz2
  have Hov := Lib.hid hov; have Hou2 := Lib.hid hou2; have Hz2 := Lib.hid hz2; have HB2 := Lib.hid hB2; clear hov hou2 hz2 hB2 hb2 hSw
  dsimp only
  refine hK.out _ _ hS2 (fun hSw => ?_)
  clear hK K hS2
  refine wpAnyX_take (i := 6) (v := ?_) rfl (by kernel_rfl) (by decide) (by kernel_rfl) (by kernel_rfl) (by kernel_rfl) (by kernel_rfl) (fun _ _ _ h => h) (Or.inl ⟨by rfl, ?_⟩) hSw ?_
  rotate_left
  · intro w9 hS9; (try dsimp only at hS9); obtain ⟨s1, s2⟩ := hS9; go_simp; (try with_reducible rfl)
  simp only [List.getElem_toArray, List.getElem_cons_succ, List.getElem_cons_zero, Act.put, List.setIfInBounds_toArray, List.set_cons_zero, List.set_cons_succ]
  refine wpAnyX_tail (by rfl) (by kernel_rfl) ?_
  clear hSw
  simp only [List.drop_succ_cons, List.drop_zero]
  go_wp2_with fail
  have e1 := heap_setCell_same w2 (w.heap.size + 1) 0 _ _ (.slice A1 n c1) Hz2.out
  have e2 := heap_setCell_same _ (w.heap.size + 1) 1 _ _ (.slice A2 n c2) e1
  have e3 : ((w2.setCell ⟨w.heap.size + 1, 0, none⟩ (.slice A1 n c1)).setCell ⟨w.heap.size + 1, 1, none⟩ (.slice A2 n c2)).heap[w.heap.size + 1]? = some (.cells #[(.slice A1 n c1), (.slice A2 n c2)] 71 (0, 0)) := by simpa using e2
  have hk : Keep (fun j => j = w.heap.size + 1) w2 ((w2.setCell ⟨w.heap.size + 1, 0, none⟩ (.slice A1 n c1)).setCell ⟨w.heap.size + 1, 1, none⟩ (.slice A2 n c2)) := Keep.setCell (S := fun j => j = w.heap.size + 1) (Keep.setCell (S := fun j => j = w.heap.size + 1) (Keep.refl _ _) ⟨w.heap.size + 1, 0, none⟩ (.inr rfl) _) ⟨w.heap.size + 1, 1, none⟩ (.inr rfl) _
  obtain ⟨W9, hW9⟩ : ∃ W9, W9 = (w2.setCell ⟨w.heap.size + 1, 0, none⟩ (.slice A1 n c1)).setCell ⟨w.heap.size + 1, 1, none⟩ (.slice A2 n c2) := ⟨_, rfl⟩
  rw [← hW9] at e3 hk ⊢
  have x0 := cell_of_row W9 _ 0 _ _ _ e3
  have x1 := cell_of_row W9 _ 1 _ _ _ e3
  have xf := fun j => frozen_of_row W9 _ j _ _ e3
  have hu9 := hk.own Hou2.out (fun j hj e => block_notrow Hz2.out (by decide) Hou2.out (by rw [hj, e]))
  have hv9 := hk.own Hov.out (fun j hj e => block_notrow Hz2.out (by decide) Hov.out (by rw [hj, e]))
  have hb9 : Below w.heap.size w W9 := HB2.out.trans (hk.toBelow (by omega) (fun j hj => by omega))
  exact bodyPost_ret (v := .agg #[.slice A1 n c1, .slice A2 n c2]) (by simp [results, Tryz.results57, go_sem, x0, x1]) rfl ⟨A1, c1, A2, c2, rfl, Hcu.out, Hcv.out, hu9, hv9, Hdis.out, hb9⟩

set_option maxRecDepth 100000 in
set_option maxHeartbeats 1000000 in
theorem next_ok (ra mo q : Int) (A B G : Option Addr) (n c d cg : Nat) (ps ms g : List Int) (w : World) (hA : Rd w A (nums .i64 ps)) (hB : Rd w B (nums .i64 ms)) (hG : Rd w G (nums .i64 g)) (hpl : ps.length = n) (hml : ms.length = n) (hgl : g.length = n) (hn : n ≤ 1048576)
    (wr : -9223372036854775808 ≤ ra ∧ ra ≤ 9223372036854775807) (wo : -9223372036854775808 ≤ mo ∧ mo ≤ 9223372036854775807) (wm : W64 ms) (hGb : ∀ a, G = some a → a.block < w.heap.size) :
    Calls Tryz.prog 60 #[.agg #[.int .i64 ra, .int .i64 mo, .int .i64 q], .agg #[.slice A n c, .slice B n d], .slice G n cg] w fun e w' => ∃ A1 c1 A2 c2, e = .returned (.tuple #[.agg #[.slice A1 n c1, .slice A2 n c2], .bool true]) ∧ n ≤ c1 ∧ n ≤ c2 ∧
      w'.ownsRow w.heap.size 2 1 (.slice A1 n c1) n (nums .i64 (nextP ra mo q ps ms g)) ∧ w'.ownsRow w.heap.size 2 1 (.slice A2 n c2) n (nums .i64 (nextM mo q ms g)) ∧ Below w.heap.size w w' := by
  have hcl := fun w' (k : Below w.heap.size w w') => stclone_any A B n c d ps ms w' (hA.below k) (hB.below k) hpl hml hn
  have hap := fun (A1 A2 : Option Addr) c1 c2 base w' (k : Below w.heap.size w w') (hb : w.heap.size ≤ base) (h1 : w'.ownsRow base 2 1 (.slice A1 n c1) n (nums .i64 ps)) (h2 : w'.ownsRow base 2 1 (.slice A2 n c2) n (nums .i64 ms)) hne => apply_any ra mo q base n 0 n c1 c2 cg A1 A2 G ps ms g w' h1 h2 hne (hG.below k) hgl (by omega) hn
    (fun a ha e => by have := (h1.lt _ e).1; have := hGb a ha; omega) (fun a ha e => by have := (h2.lt _ e).1; have := hGb a ha; omega) wr wo wm
  have e1 := apP_all ra mo q ps ms g
  have e2 := apM_all mo q ms g
  rw [hpl] at e1
  rw [hml] at e2
  rw [e1, e2, Nat.zero_add] at hap
  have hq : ((n : Int) != (n : Int)) = false := by simp
  have Hcl := Lib.hid hcl; have Hap := Lib.hid hap
  clear hcl hap e1 e2 hA hB hG hpl hml hgl wr wo wm hGb
  go_enter Tryz.func60, Tryz.ntmps60
  go_wp2_with fail
  have hs0 : (((w.alloc (.cells #[.int .i64 ra, .int .i64 mo, .int .i64 q] 103)).alloc (.cells #[.slice A n c, .slice B n d] 71)).alloc (.cells #[.slice none 0 0, .slice none 0 0] 71)).heap.size = w.heap.size + 3 := by simp
  have hB0 : Below w.heap.size w (((w.alloc (.cells #[.int .i64 ra, .int .i64 mo, .int .i64 q] 103)).alloc (.cells #[.slice A n c, .slice B n d] 71)).alloc (.cells #[.slice none 0 0, .slice none 0 0] 71)) := (((Below.refl _ w).alloc (Nat.le_refl _) _).alloc (by simp) _).alloc (by simp; omega) _
  have hb0 := (Below.heap_alloc ((w.alloc (.cells #[.int .i64 ra, .int .i64 mo, .int .i64 q] 103)).alloc (.cells #[.slice A n c, .slice B n d] 71)) (.cells #[.slice none 0 0, .slice none 0 0] 71) w.heap.size (by simp; omega)).trans ((Below.heap_alloc (w.alloc (.cells #[.int .i64 ra, .int .i64 mo, .int .i64 q] 103)) (.cells #[.slice A n c, .slice B n d] 71) w.heap.size (by simp)).trans (heap_alloc_new w _))
  have hb1 := heap_alloc_new (w.alloc (.cells #[.int .i64 ra, .int .i64 mo, .int .i64 q] 103)) (.cells #[.slice A n c, .slice B n d] 71)
  rw [show (w.alloc (.cells #[.int .i64 ra, .int .i64 mo, .int .i64 q] 103)).heap.size = w.heap.size + 1 by simp] at hb1
  have hb1 := (Below.heap_alloc ((w.alloc (.cells #[.int .i64 ra, .int .i64 mo, .int .i64 q] 103)).alloc (.cells #[.slice A n c, .slice B n d] 71)) (.cells #[.slice none 0 0, .slice none 0 0] 71) (w.heap.size + 1) (by simp)).trans hb1
  have hb2 := heap_alloc_new ((w.alloc (.cells #[.int .i64 ra, .int .i64 mo, .int .i64 q] 103)).alloc (.cells #[.slice A n c, .slice B n d] 71)) (.cells #[.slice none 0 0, .slice none 0 0] 71)
  rw [show ((w.alloc (.cells #[.int .i64 ra, .int .i64 mo, .int .i64 q] 103)).alloc (.cells #[.slice A n c, .slice B n d] 71)).heap.size = w.heap.size + 1 + 1 by simp] at hb2
  obtain ⟨W0, hW0⟩ : ∃ W0, W0 = ((w.alloc (.cells #[.int .i64 ra, .int .i64 mo, .int .i64 q] 103)).alloc (.cells #[.slice A n c, .slice B n d] 71)).alloc (.cells #[.slice none 0 0, .slice none 0 0] 71) := ⟨_, rfl⟩
  rw [← hW0] at hs0 hB0 hb0 hb1 hb2 ⊢
  have HB0 := Lib.hid hB0; have Hb0 := Lib.hid hb0; have Hb1 := Lib.hid hb1; have Hb2 := Lib.hid hb2; have Hs0 := Lib.hid hs0
  clear hs0 hB0 hb0 hb1 hb2 hW0
  refine (Hcl.out _ HB0.out).mono ?_
  rintro e w1 ⟨A1, c1, A2, c2, rfl, hc1, hc2, ho1, ho2, hdis, k1⟩
  have hx0 := (k1.block _ (lt_of_block Hb0.out)).trans Hb0.out
  have hx1 := (k1.block _ (lt_of_block Hb1.out)).trans Hb1.out
  have hx2 := (k1.block _ (lt_of_block Hb2.out)).trans Hb2.out
  have hl0 := lt_of_block hx0; have hl1 := lt_of_block hx1; have hl2 := lt_of_block hx2
  have hB1 := HB0.out.trans (k1.mono HB0.out.size)
  have x0 := cell_of_row w1 _ 0 _ _ _ hx0
  have x1 := cell_of_row w1 _ 1 _ _ _ hx0
  have x2 := cell_of_row w1 _ 2 _ _ _ hx0
  have xf := fun j => frozen_of_row w1 _ j _ _ hx0
  have y0 := cell_of_row w1 _ 0 _ _ _ hx1
  have y1 := cell_of_row w1 _ 1 _ _ _ hx1
  have yf := fun j => frozen_of_row w1 _ j _ _ hx1
  have HX2 := Lib.hid hx2; have HB1 := Lib.hid hB1; have Hc1 := Lib.hid hc1; have Hc2 := Lib.hid hc2; have Ho1 := Lib.hid ho1; have Ho2 := Lib.hid ho2; have Hdis := Lib.hid hdis
  clear k1 hx0 hx1 hx2 hB1 hc1 hc2 ho1 ho2 hdis
  go_wp2_with fail
  have hB2 := HB1.out.alloc HB1.out.size (.cells #[.slice A1 n c1, .slice A2 n c2] 71)
  have hs8 := heap_alloc_new w1 (.cells #[.slice A1 n c1, .slice A2 n c2] 71)
  have hx2 := (Below.heap_alloc w1 (.cells #[.slice A1 n c1, .slice A2 n c2] 71) _ (lt_of_block HX2.out)).trans HX2.out
  have ho1 := Ho1.out.alloc (.cells #[.slice A1 n c1, .slice A2 n c2] 71)
  have ho2 := Ho2.out.alloc (.cells #[.slice A1 n c1, .slice A2 n c2] 71)
  have hz1 : w1.heap.size < (w1.alloc (.cells #[.slice A1 n c1, .slice A2 n c2] 71)).heap.size := by simp
  obtain ⟨V, hV⟩ : ∃ V, V = w1.alloc (.cells #[.slice A1 n c1, .slice A2 n c2] 71) := ⟨_, rfl⟩
  rw [← hV] at hB2 hs8 hx2 ho1 ho2 hz1 ⊢
  clear hV
  refine (Hap.out A1 A2 c1 c2 W0.heap.size V hB2 HB0.out.size ho1 ho2 Hdis.out).mono ?_
  rintro e w3 ⟨rfl, hp3, hm3, hK3⟩
  have hlo1 := ho1.lt
  have hlo2 := ho2.lt
  have hnS : ∀ j, j < W0.heap.size → ¬ ((Value.slice A1 n c1).ownBlock = some j ∨ (Value.slice A2 n c2).ownBlock = some j) := fun j hj => by
    rintro (h | h)
    · have := (hlo1 j h).1; omega
    · have := (hlo2 j h).1; omega
  have hs83 := (hK3.block _ hz1 (by
    rintro (h | h)
    · have := (Ho1.out.lt _ h).2; omega
    · have := (Ho2.out.lt _ h).2; omega)).trans hs8
  have hx23 := (hK3.block _ (lt_of_block hx2) (hnS _ (lt_of_block Hb2.out))).trans hx2
  have hB3 := hB2.trans (hK3.toBelow hB2.size (fun j hj => by
    rcases hj with h | h
    · have := (hlo1 j h).1; have := HB0.out.size; omega
    · have := (hlo2 j h).1; have := HB0.out.size; omega))
  have hl3 := lt_of_block hx23
  have z0 := cell_of_row w3 _ 0 _ _ _ hs83
  have z1 := cell_of_row w3 _ 1 _ _ _ hs83
  have zf := fun j => frozen_of_row w3 _ j _ _ hs83
  have t0 := cell_of_row w3 _ 0 _ _ _ hx23
  have t1 := cell_of_row w3 _ 1 _ _ _ hx23
  have tf := fun j => frozen_of_row w3 _ j _ _ hx23
  have HX23 := Lib.hid hx23; have HB3 := Lib.hid hB3; have HP3 := Lib.hid hp3; have HM3 := Lib.hid hm3
  clear hx23 hB3 hp3 hm3 hK3 hs83 hs8 hx2 ho1 ho2 hB2 hlo1 hlo2 hnS x0 x1 x2 xf y0 y1 yf
  go_wp2_with fail
  have e1 := heap_setCell_same w3 (w.heap.size + 1 + 1) 0 _ _ (.slice A1 n c1) HX23.out
  have e2 := heap_setCell_same _ (w.heap.size + 1 + 1) 1 _ _ (.slice A2 n c2) e1
  have e3 : ((w3.setCell ⟨w.heap.size + 1 + 1, 0, none⟩ (.slice A1 n c1)).setCell ⟨w.heap.size + 1 + 1, 1, none⟩ (.slice A2 n c2)).heap[w.heap.size + 1 + 1]? = some (.cells #[.slice A1 n c1, .slice A2 n c2] 71 (0, 0)) := by simpa using e2
  have hk : Keep (fun j => j = w.heap.size + 1 + 1) w3 ((w3.setCell ⟨w.heap.size + 1 + 1, 0, none⟩ (.slice A1 n c1)).setCell ⟨w.heap.size + 1 + 1, 1, none⟩ (.slice A2 n c2)) := Keep.setCell (S := fun j => j = w.heap.size + 1 + 1) (Keep.setCell (S := fun j => j = w.heap.size + 1 + 1) (Keep.refl _ _) ⟨w.heap.size + 1 + 1, 0, none⟩ (.inr rfl) _) ⟨w.heap.size + 1 + 1, 1, none⟩ (.inr rfl) _
  obtain ⟨W9, hW9⟩ : ∃ W9, W9 = (w3.setCell ⟨w.heap.size + 1 + 1, 0, none⟩ (.slice A1 n c1)).setCell ⟨w.heap.size + 1 + 1, 1, none⟩ (.slice A2 n c2) := ⟨_, rfl⟩
  rw [← hW9] at e3 hk ⊢
  have r0 := cell_of_row W9 _ 0 _ _ _ e3
  have r1 := cell_of_row W9 _ 1 _ _ _ e3
  have rf := fun j => frozen_of_row W9 _ j _ _ e3
  have hp9 := hk.own HP3.out (fun j hj e => block_notrow HX23.out (by decide) HP3.out (by rw [hj, e]))
  have hm9 := hk.own HM3.out (fun j hj e => block_notrow HX23.out (by decide) HM3.out (by rw [hj, e]))
  exact bodyPost_ret (v := .tuple #[.agg #[.slice A1 n c1, .slice A2 n c2], .bool true]) (by simp [results, Tryz.results60, go_sem, r0, r1]) rfl ⟨A1, c1, A2, c2, rfl, Hc1.out, Hc2.out, own_base hp9 HB0.out.size, own_base hm9 HB0.out.size, HB3.out.trans (hk.toBelow HB3.out.size (fun j hj => by omega))⟩

set_option maxRecDepth 100000 in
set_option maxHeartbeats 1000000 in
theorem start_any (A : Option Addr) (n c : Nat) (ps : List Int) (w : World) (hA : Rd w A (nums .i64 ps)) (hpl : ps.length = n) (hn : n ≤ 1048576) :
    Calls Tryz.prog 49 #[.slice A n c] w fun e w' => ∃ A1 c1 A2 c2, e = .returned (.agg #[.slice A1 n c1, .slice A2 n c2]) ∧ n ≤ c1 ∧ n ≤ c2 ∧ w'.ownsRow w.heap.size 2 1 (.slice A1 n c1) n (nums .i64 ps) ∧ w'.ownsRow w.heap.size 2 1 (.slice A2 n c2) n (nums .i64 (List.replicate n 0)) ∧ Below w.heap.size w w' := by
  have hcx := fun w' (k : Below w.heap.size w w') => vclone_any A ps c w' (hA.below k) (by omega)
  rw [hpl] at hcx
  have Hcx := Lib.hid hcx
  have hmk := fun w' => run_mk et_vec w' rfl n (by omega) (by unfold maxLen; omega)
  simp only [nums_rep] at hmk
  have Hmk := Lib.hid hmk
  clear hcx hpl hA hmk
  go_enter Tryz.func49, Tryz.ntmps49
  go_wp2_with fail
  have hz := heap_alloc_new w (.cells #[.slice none 0 0, .slice none 0 0] 71)
  have hB0 : Below w.heap.size w (w.alloc (.cells #[.slice none 0 0, .slice none 0 0] 71)) := (Below.refl _ w).alloc (Nat.le_refl _) _
  obtain ⟨W0, hW0⟩ : ∃ W0, W0 = w.alloc (.cells #[.slice none 0 0, .slice none 0 0] 71) := ⟨_, rfl⟩
  rw [← hW0] at hz hB0 ⊢
  have hl0 := lt_of_block hz
  have HZ := Lib.hid hz; have HB0 := Lib.hid hB0
  clear hz hB0 hW0
  have hSw : (fun _ : World => True) W0.drew := trivial
  refine wp_region_X 6 (fun _ : World => True) (by kernel_rfl) ?_
  refine wpAnyX_take (i := 0) (v := ?_) rfl (by kernel_rfl) (by decide) (by kernel_rfl) (by kernel_rfl) (by kernel_rfl) (by kernel_rfl) (fun _ _ _ h => h) (Or.inl ⟨by rfl, ?_⟩) hSw ?_
  rotate_left
  · intro w9 hS9; (try dsimp only at hS9); have s1 := hS9; go_simp; (try with_reducible rfl)
  simp only [List.getElem_toArray, List.getElem_cons_succ, List.getElem_cons_zero, Act.put, List.setIfInBounds_toArray, List.set_cons_zero, List.set_cons_succ]
  refine wpAnyX_take (i := 2) (v := ?_) rfl (by kernel_rfl) (by decide) (by kernel_rfl) (by kernel_rfl) (by kernel_rfl) (by kernel_rfl) (fun _ _ _ h => h) (Or.inl ⟨by rfl, ?_⟩) hSw ?_
  rotate_left
  · intro w9 hS9; (try dsimp only at hS9); have s1 := hS9; go_simp; (try with_reducible rfl)
  simp only [List.getElem_toArray, List.getElem_cons_succ, List.getElem_cons_zero, Act.put, List.setIfInBounds_toArray, List.set_cons_zero, List.set_cons_succ]
  refine wpAnyX_take (i := 3) (v := ?_) rfl (by kernel_rfl) (by decide) (by kernel_rfl) (by kernel_rfl) (by kernel_rfl) (by kernel_rfl) (fun _ _ _ h => h) (Or.inl ⟨by rfl, ?_⟩) hSw ?_
  rotate_left
  · intro w9 hS9; (try dsimp only at hS9); have s1 := hS9; go_simp; (try with_reducible rfl)
  simp only [List.getElem_toArray, List.getElem_cons_succ, List.getElem_cons_zero, Act.put, List.setIfInBounds_toArray, List.set_cons_zero, List.set_cons_succ]
  refine wpAnyX_ready (rs := [1, 4]) (by kernel_rfl) (by simp) ?_
  refine AllReadyX.cons rfl (fun K hK => ?_) (AllReadyX.cons rfl (fun K hK => ?_) AllReadyX.nil)
  · simp only [List.getElem_toArray, List.getElem_cons_succ, List.getElem_cons_zero]
    go_simp
    refine (Hcx.out _ HB0.out.drew).mono ?_
    rintro e w1 ⟨A1, c1, rfl, hc1, ho1, hb1⟩
    have hB1 := HB0.out.drew.trans (hb1.mono HB0.out.size)
    have hz1 := (hb1.block w.heap.size (by simpa using hl0)).trans HZ.out
    have ho1' := own_base (base' := w.heap.size) ho1 (by have := HB0.out.size; simpa using this)
    have hs1 := hb1.size
    simp only [World.size_drew] at hs1
    have HB1 := Lib.hid hB1; have HZ1 := Lib.hid hz1; have Ho1 := Lib.hid ho1'; have Hc1 := Lib.hid hc1; clear hb1 hB1 hz1 ho1 ho1' hc1
    dsimp only
    refine hK.out _ _ trivial (fun hSw => ?_)
    clear hK K hSw
    refine wpAnyX_ready (rs := [4]) (by kernel_rfl) (by simp) ?_
    refine AllReadyX.cons rfl (fun K hK => ?_) AllReadyX.nil
    simp only [List.getElem_toArray, List.getElem_cons_succ, List.getElem_cons_zero]
    obtain ⟨V, hrun, ho2, hb2⟩ := Hmk.out w1
    have HM2 := Lib.hid (own_base (base' := w.heap.size) ho2 HB1.out.size); have HB2 := Lib.hid (HB1.out.trans (hb2.mono HB1.out.size)); have HZ2 := Lib.hid ((hb2.block w.heap.size (by omega)).trans HZ1.out); have HP2 := Lib.hid (own_below Ho1.out hb2)
    have hz2 := HZ2.out
    have z0 := cell_of_row V _ 0 _ _ _ hz2
    have z1 := cell_of_row V _ 1 _ _ _ hz2
    have zf := fun j => frozen_of_row V _ j _ _ hz2
    have hl2 := lt_of_block hz2
    clear ho2 hb2 hz2
    go_simp
    refine hK.out _ _ trivial (fun hSw => ?_)
    clear hK K hrun
    refine wpAnyX_take (i := 5) (v := ?_) rfl (by kernel_rfl) (by decide) (by kernel_rfl) (by kernel_rfl) (by kernel_rfl) (by kernel_rfl) (fun _ _ _ h => h) (Or.inl ⟨by rfl, ?_⟩) hSw ?_
    rotate_left
    · intro w9 hS9; (try dsimp only at hS9); have s1 := hS9; go_simp; (try with_reducible rfl)
    simp only [List.getElem_toArray, List.getElem_cons_succ, List.getElem_cons_zero, Act.put, List.setIfInBounds_toArray, List.set_cons_zero, List.set_cons_succ]
    refine wpAnyX_tail (by rfl) (by kernel_rfl) ?_
    simp only [List.drop_succ_cons, List.drop_zero]
    go_wp2_with fail
    have e1 := heap_setCell_same V w.heap.size 0 _ _ (.slice A1 n c1) HZ2.out
    have e2 := heap_setCell_same _ w.heap.size 1 _ _ (.slice (some ⟨w1.heap.size, 0, none⟩) n n) e1
    have e3 : ((V.setCell ⟨w.heap.size, 0, none⟩ (.slice A1 n c1)).setCell ⟨w.heap.size, 1, none⟩ (.slice (some ⟨w1.heap.size, 0, none⟩) n n)).heap[w.heap.size]? = some (.cells #[.slice A1 n c1, .slice (some ⟨w1.heap.size, 0, none⟩) n n] 71 (0, 0)) := by simpa using e2
    have hk : Keep (fun j => j = w.heap.size) V ((V.setCell ⟨w.heap.size, 0, none⟩ (.slice A1 n c1)).setCell ⟨w.heap.size, 1, none⟩ (.slice (some ⟨w1.heap.size, 0, none⟩) n n)) := Keep.setCell (S := fun j => j = w.heap.size) (Keep.setCell (S := fun j => j = w.heap.size) (Keep.refl _ _) ⟨w.heap.size, 0, none⟩ (.inr rfl) _) ⟨w.heap.size, 1, none⟩ (.inr rfl) _
    obtain ⟨W9, hW9⟩ : ∃ W9, W9 = (V.setCell ⟨w.heap.size, 0, none⟩ (.slice A1 n c1)).setCell ⟨w.heap.size, 1, none⟩ (.slice (some ⟨w1.heap.size, 0, none⟩) n n) := ⟨_, rfl⟩
    rw [← hW9] at e3 hk ⊢
    have r0 := cell_of_row W9 _ 0 _ _ _ e3
    have r1 := cell_of_row W9 _ 1 _ _ _ e3
    have rf := fun j => frozen_of_row W9 _ j _ _ e3
    have hp9 := hk.own HP2.out (fun j hj e => block_notrow HZ2.out (by decide) HP2.out (by rw [hj, e]))
    have hm9 := hk.own HM2.out (fun j hj e => block_notrow HZ2.out (by decide) HM2.out (by rw [hj, e]))
    exact bodyPost_ret (v := .agg #[.slice A1 n c1, .slice (some ⟨w1.heap.size, 0, none⟩) n n]) (by simp [results, Tryz.results49, go_sem, r0, r1]) rfl ⟨A1, c1, _, n, rfl, Hc1.out, Nat.le_refl _, hp9, hm9, HB2.out.trans (hk.toBelow HB2.out.size (fun j hj => by omega))⟩
  · simp only [List.getElem_toArray, List.getElem_cons_succ, List.getElem_cons_zero]
    obtain ⟨w1, hrun, ho2, hb2⟩ := Hmk.out W0.drew
    have hB1 := HB0.out.drew.trans (hb2.mono HB0.out.size)
    have hz1 := (hb2.block w.heap.size (by simpa using hl0)).trans HZ.out
    have ho2' := own_base (base' := w.heap.size) ho2 (by have := HB0.out.size; simpa using this)
    have hs1 := hb2.size
    simp only [World.size_drew] at hs1 ho2' hrun
    have HB1 := Lib.hid hB1; have HZ1 := Lib.hid hz1; have Ho2 := Lib.hid ho2'; clear hb2 hB1 hz1 ho2 ho2'
    go_simp
    refine hK.out _ _ trivial (fun hSw => ?_)
    clear hK K hrun
    refine wpAnyX_ready (rs := [1]) (by kernel_rfl) (by simp) ?_
    refine AllReadyX.cons rfl (fun K hK => ?_) AllReadyX.nil
    simp only [List.getElem_toArray, List.getElem_cons_succ, List.getElem_cons_zero]
    go_simp
    refine (Hcx.out _ HB1.out).mono ?_
    rintro e V ⟨A1, c1, rfl, hc1, ho1, hb1⟩
    have HP2 := Lib.hid (own_base (base' := w.heap.size) ho1 HB1.out.size); have HB2 := Lib.hid (HB1.out.trans (hb1.mono HB1.out.size)); have HZ2 := Lib.hid ((hb1.block w.heap.size (by omega)).trans HZ1.out); have HM2 := Lib.hid (own_below Ho2.out hb1); have Hc1 := Lib.hid hc1
    have hz2 := HZ2.out
    have z0 := cell_of_row V _ 0 _ _ _ hz2
    have z1 := cell_of_row V _ 1 _ _ _ hz2
    have zf := fun j => frozen_of_row V _ j _ _ hz2
    have hl2 := lt_of_block hz2
    clear ho1 hb1 hz2 hc1
    dsimp only
    refine hK.out _ _ trivial (fun hSw => ?_)
    clear hK K
    refine wpAnyX_take (i := 5) (v := ?_) rfl (by kernel_rfl) (by decide) (by kernel_rfl) (by kernel_rfl) (by kernel_rfl) (by kernel_rfl) (fun _ _ _ h => h) (Or.inl ⟨by rfl, ?_⟩) hSw ?_
    rotate_left
    · intro w9 hS9; (try dsimp only at hS9); have s1 := hS9; go_simp; (try with_reducible rfl)
    simp only [List.getElem_toArray, List.getElem_cons_succ, List.getElem_cons_zero, Act.put, List.setIfInBounds_toArray, List.set_cons_zero, List.set_cons_succ]
    refine wpAnyX_tail (by rfl) (by kernel_rfl) ?_
    simp only [List.drop_succ_cons, List.drop_zero]
    go_wp2_with fail
    have e1 := heap_setCell_same V w.heap.size 0 _ _ (.slice A1 n c1) HZ2.out
    have e2 := heap_setCell_same _ w.heap.size 1 _ _ (.slice (some ⟨W0.heap.size, 0, none⟩) n n) e1
    have e3 : ((V.setCell ⟨w.heap.size, 0, none⟩ (.slice A1 n c1)).setCell ⟨w.heap.size, 1, none⟩ (.slice (some ⟨W0.heap.size, 0, none⟩) n n)).heap[w.heap.size]? = some (.cells #[.slice A1 n c1, .slice (some ⟨W0.heap.size, 0, none⟩) n n] 71 (0, 0)) := by simpa using e2
    have hk : Keep (fun j => j = w.heap.size) V ((V.setCell ⟨w.heap.size, 0, none⟩ (.slice A1 n c1)).setCell ⟨w.heap.size, 1, none⟩ (.slice (some ⟨W0.heap.size, 0, none⟩) n n)) := Keep.setCell (S := fun j => j = w.heap.size) (Keep.setCell (S := fun j => j = w.heap.size) (Keep.refl _ _) ⟨w.heap.size, 0, none⟩ (.inr rfl) _) ⟨w.heap.size, 1, none⟩ (.inr rfl) _
    obtain ⟨W9, hW9⟩ : ∃ W9, W9 = (V.setCell ⟨w.heap.size, 0, none⟩ (.slice A1 n c1)).setCell ⟨w.heap.size, 1, none⟩ (.slice (some ⟨W0.heap.size, 0, none⟩) n n) := ⟨_, rfl⟩
    rw [← hW9] at e3 hk ⊢
    have r0 := cell_of_row W9 _ 0 _ _ _ e3
    have r1 := cell_of_row W9 _ 1 _ _ _ e3
    have rf := fun j => frozen_of_row W9 _ j _ _ e3
    have hp9 := hk.own HP2.out (fun j hj e => block_notrow HZ2.out (by decide) HP2.out (by rw [hj, e]))
    have hm9 := hk.own HM2.out (fun j hj e => block_notrow HZ2.out (by decide) HM2.out (by rw [hj, e]))
    exact bodyPost_ret (v := .agg #[.slice A1 n c1, .slice (some ⟨W0.heap.size, 0, none⟩) n n]) (by simp [results, Tryz.results49, go_sem, r0, r1]) rfl ⟨A1, c1, _, n, rfl, Hc1.out, Nat.le_refl _, hp9, hm9, HB2.out.trans (hk.toBelow HB2.out.size (fun j hj => by omega))⟩
end Go.Proofs.YtfiojofcafjfeaaGreat
