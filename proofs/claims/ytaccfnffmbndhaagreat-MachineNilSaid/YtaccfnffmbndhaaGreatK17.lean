/- The walks of package sgd: Clone, Start, Next. Picked examples lie in rows of the call's own. The places of a network's parameters, and the gradient place by place, in plain lists. What a run reckons, in plain words: sums of gradients, the trajectory; states in a row. A machine in memory; what it says of itself. No condition. -/
import Derived.Test.YtaccfnffmbndhaaGreatK04
import Derived.Test.YtaccfnffmbndhaaGreatK16
import Derived.Test.YtaccfnffmbndhaaGreatK14
import Derived.Test.YtaccfnffmbndhaaGreatK11
import Derived.Test.YtaccfnffmbndhaaGreatK12
import Derived.Test.YtaccfnffmbndhaaGreatK02
set_option linter.unusedSimpArgs false
set_option linter.unusedVariables false
namespace Go.Proofs.YtaccfnffmbndhaaGreat
open Go.RowKit
set_option maxRecDepth 100000 in
set_option maxHeartbeats 1000000 in
theorem stclone_any (A B : Option Addr) (n c d : Nat) (ps ms : List Int) (w : World) (hA : Rd w A (nums .i64 ps)) (hB : Rd w B (nums .i64 ms)) (hpl : ps.length = n) (hml : ms.length = n) (hn : n ≤ 1048576) :
    Calls Tryz.prog 50 #[.agg #[.slice A n c, .slice B n d]] w fun e w' => ∃ A1 c1 A2 c2, e = .returned (.agg #[.slice A1 n c1, .slice A2 n c2]) ∧ n ≤ c1 ∧ n ≤ c2 ∧ w'.ownsRow w.heap.size 2 1 (.slice A1 n c1) n (nums .i64 ps) ∧ w'.ownsRow w.heap.size 2 1 (.slice A2 n c2) n (nums .i64 ms) ∧
      (∀ j, (Value.slice A1 n c1).ownBlock = some j → (Value.slice A2 n c2).ownBlock ≠ some j) ∧ Below w.heap.size w w' := by
  have hcx := fun w' (k : Below w.heap.size w w') => vclone_any A ps c w' (hA.below k) (by omega)
  have hcy := fun w' (k : Below w.heap.size w w') => vclone_any B ms d w' (hB.below k) (by omega)
  rw [hpl] at hcx
  rw [hml] at hcy
  have Hcx := Lib.hid hcx; have Hcy := Lib.hid hcy
  clear hcx hcy hpl hml hA hB
  go_enter Tryz.func50, Tryz.ntmps50
  go_wp2_with fail
  have hz := heap_alloc_new (w.alloc (.cells #[.slice A n c, .slice B n d] 68)) (.cells #[.slice none 0 0, .slice none 0 0] 68)
  rw [show (w.alloc (.cells #[.slice A n c, .slice B n d] 68)).heap.size = w.heap.size + 1 by simp] at hz
  have hy := (Below.heap_alloc (w.alloc (.cells #[.slice A n c, .slice B n d] 68)) (.cells #[.slice none 0 0, .slice none 0 0] 68) w.heap.size (by simp)).trans (heap_alloc_new w _)
  have hB0 : Below w.heap.size w ((w.alloc (.cells #[.slice A n c, .slice B n d] 68)).alloc (.cells #[.slice none 0 0, .slice none 0 0] 68)) := ((Below.refl _ w).alloc (Nat.le_refl _) _).alloc (by simp) _
  have hs0 : ((w.alloc (.cells #[.slice A n c, .slice B n d] 68)).alloc (.cells #[.slice none 0 0, .slice none 0 0] 68)).heap.size = w.heap.size + 2 := by simp
  obtain ⟨W0, hW0⟩ : ∃ W0, W0 = (w.alloc (.cells #[.slice A n c, .slice B n d] 68)).alloc (.cells #[.slice none 0 0, .slice none 0 0] 68) := ⟨_, rfl⟩
  rw [← hW0] at hz hy hB0 hs0 ⊢
  obtain ⟨⟨y0, y1⟩, yf⟩ := bx2 hy
  have Hz := Lib.hid hz; have HB0 := Lib.hid hB0; have Hs0 := Lib.hid hs0
  clear hz hy hB0 hs0 hW0
  have hSw : (fun w' : World => w'.cell? ⟨w.heap.size, 0, none⟩ = some (.slice A n c) ∧ w'.cell? ⟨w.heap.size, 1, none⟩ = some (.slice B n d)) W0.drew := ⟨y0, y1⟩
  refine XA.g 7 (fun w' : World => w'.cell? ⟨w.heap.size, 0, none⟩ = some (.slice A n c) ∧ w'.cell? ⟨w.heap.size, 1, none⟩ = some (.slice B n d)) ?_
  refine XA.t ?_ [0, 1, 3, 4] hSw ?_
  refine XA.o 2 (fun K hK => ?_)
  go_simp
  refine (Hcx.out _ HB0.out.drew).mono ?_
  rintro e w1 ⟨A1, c1, rfl, hcu, hou, hb1⟩
  have Hcu := Lib.hid hcu; clear hcu
  have hS1 := And.intro (cell_below hb1 hSw.1) (cell_below hb1 hSw.2)
  have hz1 := (hb1.block (w.heap.size + 1) (by simp [Hs0.out])).trans Hz.out
  have hB1 := HB0.out.drew.trans (hb1.mono (by simp [Hs0.out]))
  have hs1 := hb1.size
  simp only [World.size_drew, Hs0.out] at hs1
  have hou := own_base (base' := w.heap.size) hou (by simp [Hs0.out])
  have Hou := Lib.hid hou; have Hz1 := Lib.hid hz1; have HB1 := Lib.hid hB1; clear hou hz1 hB1 hb1 hSw
  dsimp only
  refine hK.out _ _ hS1 (fun hSw => ?_)
  clear hK K hS1
  refine XA.o 5 (fun K hK => ?_)
  go_simp
  refine (Hcy.out _ HB1.out).mono ?_
  rintro e w2 ⟨A2, c2, rfl, hcv, hov, hb2⟩
  have hdis : ∀ j, (Value.slice A1 n c1).ownBlock = some j → (Value.slice A2 n c2).ownBlock ≠ some j := fun j h1 h2 => by have := (Hou.out.lt j h1).2; have := (hov.lt j h2).1; omega
  have Hcv := Lib.hid hcv; have Hdis := Lib.hid hdis; clear hcv hdis
  have hS2 := And.intro (cell_below hb2 hSw.1) (cell_below hb2 hSw.2)
  have hz2 := (hb2.block (w.heap.size + 1) (by omega)).trans Hz1.out
  have hB2 := HB1.out.trans (hb2.mono HB1.out.size)
  have hs2 := hb2.size
  have hov := own_base (base' := w.heap.size) hov HB1.out.size
  have hou2 := own_below Hou.out hb2
  obtain ⟨⟨z0, z1⟩, zf⟩ := bx2 hz2
  have l2 : w.heap.size + 1 < w2.heap.size := lt_of_block hz2
  have Hov := Lib.hid hov; have Hou2 := Lib.hid hou2; have Hz2 := Lib.hid hz2; have HB2 := Lib.hid hB2; clear hov hou2 hz2 hB2 hb2 hSw
  dsimp only
  refine hK.out _ _ hS2 (fun hSw => ?_)
  clear hK K hS2
  refine XA.t ?_ [6] hSw ?_
  refine XA.e ?_
  clear hSw
  simp only [List.drop_succ_cons, List.drop_zero]
  go_wp2_with fail
  have e1 := heap_setCell_same w2 (w.heap.size + 1) 0 _ _ (.slice A1 n c1) Hz2.out
  have e2 := heap_setCell_same _ (w.heap.size + 1) 1 _ _ (.slice A2 n c2) e1
  have e3 : ((w2.setCell ⟨w.heap.size + 1, 0, none⟩ (.slice A1 n c1)).setCell ⟨w.heap.size + 1, 1, none⟩ (.slice A2 n c2)).heap[w.heap.size + 1]? = some (.cells #[(.slice A1 n c1), (.slice A2 n c2)] 68 (0, 0)) := by simpa using e2
  have hk : Keep (fun j => j = w.heap.size + 1) w2 ((w2.setCell ⟨w.heap.size + 1, 0, none⟩ (.slice A1 n c1)).setCell ⟨w.heap.size + 1, 1, none⟩ (.slice A2 n c2)) := Keep.setCell (S := fun j => j = w.heap.size + 1) (Keep.setCell (S := fun j => j = w.heap.size + 1) (Keep.refl _ _) ⟨w.heap.size + 1, 0, none⟩ (.inr rfl) _) ⟨w.heap.size + 1, 1, none⟩ (.inr rfl) _
  obtain ⟨W9, hW9⟩ : ∃ W9, W9 = (w2.setCell ⟨w.heap.size + 1, 0, none⟩ (.slice A1 n c1)).setCell ⟨w.heap.size + 1, 1, none⟩ (.slice A2 n c2) := ⟨_, rfl⟩
  rw [← hW9] at e3 hk ⊢
  obtain ⟨⟨x0, x1⟩, xf⟩ := bx2 e3
  have hu9 := hk.own Hou2.out (fun j hj e => block_notrow Hz2.out (by decide) Hou2.out (by rw [hj, e]))
  have hv9 := hk.own Hov.out (fun j hj e => block_notrow Hz2.out (by decide) Hov.out (by rw [hj, e]))
  have hb9 : Below w.heap.size w W9 := HB2.out.trans (hk.toBelow (by omega) (fun j hj => by omega))
  exact bodyPost_ret (v := .agg #[.slice A1 n c1, .slice A2 n c2]) (by simp [results, Tryz.results50, go_sem, x0, x1]) rfl ⟨A1, c1, A2, c2, rfl, Hcu.out, Hcv.out, hu9, hv9, Hdis.out, hb9⟩
set_option maxRecDepth 100000 in
set_option maxHeartbeats 1000000 in
theorem startD_any (A : Option Addr) (n c : Nat) (ps : List Int) (w : World) (hA : Rd w A (nums .i64 ps)) (hpl : ps.length = n) (hn : n ≤ 1048576) :
    Calls Tryz.prog 47 #[.slice A n c] w fun e w' => ∃ A1 c1 A2 c2, e = .returned (.agg #[.slice A1 n c1, .slice A2 n c2]) ∧ n ≤ c1 ∧ n ≤ c2 ∧ w'.ownsRow w.heap.size 2 1 (.slice A1 n c1) n (nums .i64 ps) ∧ w'.ownsRow w.heap.size 2 1 (.slice A2 n c2) n (nums .i64 (List.replicate n 0)) ∧ (∀ j, (Value.slice A1 n c1).ownBlock = some j → (Value.slice A2 n c2).ownBlock ≠ some j) ∧ Below w.heap.size w w' := by
  have hcx := fun w' (k : Below w.heap.size w w') => vclone_any A ps c w' (hA.below k) (by omega)
  rw [hpl] at hcx
  have Hcx := Lib.hid hcx
  have hmk := fun w' => run_mk et_vec w' rfl n (by omega) (by unfold maxLen; omega)
  simp only [nums_rep] at hmk
  have Hmk := Lib.hid hmk
  clear hcx hpl hA hmk
  go_enter Tryz.func47, Tryz.ntmps47
  go_wp2_with fail
  have hz := heap_alloc_new w (.cells #[.slice none 0 0, .slice none 0 0] 68)
  have hB0 : Below w.heap.size w (w.alloc (.cells #[.slice none 0 0, .slice none 0 0] 68)) := (Below.refl _ w).alloc (Nat.le_refl _) _
  obtain ⟨W0, hW0⟩ : ∃ W0, W0 = w.alloc (.cells #[.slice none 0 0, .slice none 0 0] 68) := ⟨_, rfl⟩
  rw [← hW0] at hz hB0 ⊢
  have hl0 := lt_of_block hz
  have HZ := Lib.hid hz; have HB0 := Lib.hid hB0
  clear hz hB0 hW0
  have hSw : (fun _ : World => True) W0.drew := trivial
  refine wp_region_X 6 (fun _ : World => True) (by kernel_rfl) ?_
  refine wpAnyX_take (i := 0) (v := ?_) rfl (by kernel_rfl) (by decide) (by kernel_rfl) (by kernel_rfl) (by kernel_rfl) (by kernel_rfl) (fun _ _ _ h => h) (Or.inl ⟨by rfl, ?_⟩) hSw ?_
  rotate_left
  · intro w9 hS9; (try dsimp only at hS9); have s1 := hS9; go_simp; (try with_reducible rfl)
  simp only [List.getElem_toArray, List.getElem_cons_succ, List.getElem_cons_zero, Act.put, List.setIfInBounds_toArray, List.set_cons_zero, List.set_cons_succ]
  refine wpAnyX_take (i := 2) (v := ?_) rfl (by kernel_rfl) (by decide) (by kernel_rfl) (by kernel_rfl) (by kernel_rfl) (by kernel_rfl) (fun _ _ _ h => h) (Or.inl ⟨by rfl, ?_⟩) hSw ?_
  rotate_left
  · intro w9 hS9; (try dsimp only at hS9); have s1 := hS9; go_simp; (try with_reducible rfl)
  simp only [List.getElem_toArray, List.getElem_cons_succ, List.getElem_cons_zero, Act.put, List.setIfInBounds_toArray, List.set_cons_zero, List.set_cons_succ]
  refine wpAnyX_take (i := 3) (v := ?_) rfl (by kernel_rfl) (by decide) (by kernel_rfl) (by kernel_rfl) (by kernel_rfl) (by kernel_rfl) (fun _ _ _ h => h) (Or.inl ⟨by rfl, ?_⟩) hSw ?_
  rotate_left
  · intro w9 hS9; (try dsimp only at hS9); have s1 := hS9; go_simp; (try with_reducible rfl)
  simp only [List.getElem_toArray, List.getElem_cons_succ, List.getElem_cons_zero, Act.put, List.setIfInBounds_toArray, List.set_cons_zero, List.set_cons_succ]
  refine wpAnyX_ready (rs := [1, 4]) (by kernel_rfl) (by simp) ?_
  refine AllReadyX.cons rfl (fun K hK => ?_) (AllReadyX.cons rfl (fun K hK => ?_) AllReadyX.nil)
  · simp only [List.getElem_toArray, List.getElem_cons_succ, List.getElem_cons_zero]
    go_simp
    refine (Hcx.out _ HB0.out.drew).mono ?_
    rintro e w1 ⟨A1, c1, rfl, hc1, ho1, hb1⟩
    have hB1 := HB0.out.drew.trans (hb1.mono HB0.out.size)
    have hz1 := (hb1.block w.heap.size (by simpa using hl0)).trans HZ.out
    have ho1' := own_base (base' := w.heap.size) ho1 (by have := HB0.out.size; simpa using this)
    have hs1 := hb1.size
    have hdj : ∀ j, (Value.slice A1 n c1).ownBlock = some j → j < w1.heap.size := fun j hj => (ho1.lt j hj).2
    have Hdj := Lib.hid hdj
    clear hdj
    simp only [World.size_drew] at hs1
    have HB1 := Lib.hid hB1; have HZ1 := Lib.hid hz1; have Ho1 := Lib.hid ho1'; have Hc1 := Lib.hid hc1; clear hb1 hB1 hz1 ho1 ho1' hc1
    dsimp only
    refine hK.out _ _ trivial (fun hSw => ?_)
    clear hK K hSw
    refine wpAnyX_ready (rs := [4]) (by kernel_rfl) (by simp) ?_
    refine AllReadyX.cons rfl (fun K hK => ?_) AllReadyX.nil
    simp only [List.getElem_toArray, List.getElem_cons_succ, List.getElem_cons_zero]
    obtain ⟨V, hrun, ho2, hb2⟩ := Hmk.out w1
    have HM2 := Lib.hid (own_base (base' := w.heap.size) ho2 HB1.out.size); have HB2 := Lib.hid (HB1.out.trans (hb2.mono HB1.out.size)); have HZ2 := Lib.hid ((hb2.block w.heap.size (by omega)).trans HZ1.out); have HP2 := Lib.hid (own_below Ho1.out hb2)
    have hz2 := HZ2.out
    obtain ⟨⟨z0, z1⟩, zf⟩ := bx2 hz2
    have hl2 := lt_of_block hz2
    clear ho2 hb2 hz2
    go_simp
    refine hK.out _ _ trivial (fun hSw => ?_)
    clear hK K hrun
    refine wpAnyX_take (i := 5) (v := ?_) rfl (by kernel_rfl) (by decide) (by kernel_rfl) (by kernel_rfl) (by kernel_rfl) (by kernel_rfl) (fun _ _ _ h => h) (Or.inl ⟨by rfl, ?_⟩) hSw ?_
    rotate_left
    · intro w9 hS9; (try dsimp only at hS9); have s1 := hS9; go_simp; (try with_reducible rfl)
    simp only [List.getElem_toArray, List.getElem_cons_succ, List.getElem_cons_zero, Act.put, List.setIfInBounds_toArray, List.set_cons_zero, List.set_cons_succ]
    refine wpAnyX_tail (by rfl) (by kernel_rfl) ?_
    simp only [List.drop_succ_cons, List.drop_zero]
    go_wp2_with fail
    have e1 := heap_setCell_same V w.heap.size 0 _ _ (.slice A1 n c1) HZ2.out
    have e2 := heap_setCell_same _ w.heap.size 1 _ _ (.slice (some ⟨w1.heap.size, 0, none⟩) n n) e1
    have e3 : ((V.setCell ⟨w.heap.size, 0, none⟩ (.slice A1 n c1)).setCell ⟨w.heap.size, 1, none⟩ (.slice (some ⟨w1.heap.size, 0, none⟩) n n)).heap[w.heap.size]? = some (.cells #[.slice A1 n c1, .slice (some ⟨w1.heap.size, 0, none⟩) n n] 68 (0, 0)) := by simpa using e2
    have hk : Keep (fun j => j = w.heap.size) V ((V.setCell ⟨w.heap.size, 0, none⟩ (.slice A1 n c1)).setCell ⟨w.heap.size, 1, none⟩ (.slice (some ⟨w1.heap.size, 0, none⟩) n n)) := Keep.setCell (S := fun j => j = w.heap.size) (Keep.setCell (S := fun j => j = w.heap.size) (Keep.refl _ _) ⟨w.heap.size, 0, none⟩ (.inr rfl) _) ⟨w.heap.size, 1, none⟩ (.inr rfl) _
    obtain ⟨W9, hW9⟩ : ∃ W9, W9 = (V.setCell ⟨w.heap.size, 0, none⟩ (.slice A1 n c1)).setCell ⟨w.heap.size, 1, none⟩ (.slice (some ⟨w1.heap.size, 0, none⟩) n n) := ⟨_, rfl⟩
    rw [← hW9] at e3 hk ⊢
    obtain ⟨⟨r0, r1⟩, rf⟩ := bx2 e3
    have hp9 := hk.own HP2.out (fun j hj e => block_notrow HZ2.out (by decide) HP2.out (by rw [hj, e]))
    have hm9 := hk.own HM2.out (fun j hj e => block_notrow HZ2.out (by decide) HM2.out (by rw [hj, e]))
    exact bodyPost_ret (v := .agg #[.slice A1 n c1, .slice (some ⟨w1.heap.size, 0, none⟩) n n]) (by simp [results, Tryz.results47, go_sem, r0, r1]) rfl ⟨A1, c1, _, n, rfl, Hc1.out, Nat.le_refl _, hp9, hm9, fun j hj e => by
      have h1 := Hdj.out j hj
      have h2 : w1.heap.size = j := by simpa [Value.ownBlock] using e
      omega, HB2.out.trans (hk.toBelow HB2.out.size (fun j hj => by omega))⟩
  · simp only [List.getElem_toArray, List.getElem_cons_succ, List.getElem_cons_zero]
    obtain ⟨w1, hrun, ho2, hb2⟩ := Hmk.out W0.drew
    have hB1 := HB0.out.drew.trans (hb2.mono HB0.out.size)
    have hz1 := (hb2.block w.heap.size (by simpa using hl0)).trans HZ.out
    have ho2' := own_base (base' := w.heap.size) ho2 (by have := HB0.out.size; simpa using this)
    have hs1 := hb2.size
    simp only [World.size_drew] at hs1 ho2' hrun
    have HB1 := Lib.hid hB1; have HZ1 := Lib.hid hz1; have Ho2 := Lib.hid ho2'; clear hb2 hB1 hz1 ho2 ho2'
    go_simp
    refine hK.out _ _ trivial (fun hSw => ?_)
    clear hK K hrun
    refine wpAnyX_ready (rs := [1]) (by kernel_rfl) (by simp) ?_
    refine AllReadyX.cons rfl (fun K hK => ?_) AllReadyX.nil
    simp only [List.getElem_toArray, List.getElem_cons_succ, List.getElem_cons_zero]
    go_simp
    refine (Hcx.out _ HB1.out).mono ?_
    rintro e V ⟨A1, c1, rfl, hc1, ho1, hb1⟩
    have hdj : ∀ j, (Value.slice A1 n c1).ownBlock = some j → w1.heap.size ≤ j := fun j hj => (ho1.lt j hj).1
    have Hdj := Lib.hid hdj
    clear hdj
    have HP2 := Lib.hid (own_base (base' := w.heap.size) ho1 HB1.out.size); have HB2 := Lib.hid (HB1.out.trans (hb1.mono HB1.out.size)); have HZ2 := Lib.hid ((hb1.block w.heap.size (by omega)).trans HZ1.out); have HM2 := Lib.hid (own_below Ho2.out hb1); have Hc1 := Lib.hid hc1
    have hz2 := HZ2.out
    obtain ⟨⟨z0, z1⟩, zf⟩ := bx2 hz2
    have hl2 := lt_of_block hz2
    clear ho1 hb1 hz2 hc1
    dsimp only
    refine hK.out _ _ trivial (fun hSw => ?_)
    clear hK K
    refine wpAnyX_take (i := 5) (v := ?_) rfl (by kernel_rfl) (by decide) (by kernel_rfl) (by kernel_rfl) (by kernel_rfl) (by kernel_rfl) (fun _ _ _ h => h) (Or.inl ⟨by rfl, ?_⟩) hSw ?_
    rotate_left
    · intro w9 hS9; (try dsimp only at hS9); have s1 := hS9; go_simp; (try with_reducible rfl)
    simp only [List.getElem_toArray, List.getElem_cons_succ, List.getElem_cons_zero, Act.put, List.setIfInBounds_toArray, List.set_cons_zero, List.set_cons_succ]
    refine wpAnyX_tail (by rfl) (by kernel_rfl) ?_
    simp only [List.drop_succ_cons, List.drop_zero]
    go_wp2_with fail
    have e1 := heap_setCell_same V w.heap.size 0 _ _ (.slice A1 n c1) HZ2.out
    have e2 := heap_setCell_same _ w.heap.size 1 _ _ (.slice (some ⟨W0.heap.size, 0, none⟩) n n) e1
    have e3 : ((V.setCell ⟨w.heap.size, 0, none⟩ (.slice A1 n c1)).setCell ⟨w.heap.size, 1, none⟩ (.slice (some ⟨W0.heap.size, 0, none⟩) n n)).heap[w.heap.size]? = some (.cells #[.slice A1 n c1, .slice (some ⟨W0.heap.size, 0, none⟩) n n] 68 (0, 0)) := by simpa using e2
    have hk : Keep (fun j => j = w.heap.size) V ((V.setCell ⟨w.heap.size, 0, none⟩ (.slice A1 n c1)).setCell ⟨w.heap.size, 1, none⟩ (.slice (some ⟨W0.heap.size, 0, none⟩) n n)) := Keep.setCell (S := fun j => j = w.heap.size) (Keep.setCell (S := fun j => j = w.heap.size) (Keep.refl _ _) ⟨w.heap.size, 0, none⟩ (.inr rfl) _) ⟨w.heap.size, 1, none⟩ (.inr rfl) _
    obtain ⟨W9, hW9⟩ : ∃ W9, W9 = (V.setCell ⟨w.heap.size, 0, none⟩ (.slice A1 n c1)).setCell ⟨w.heap.size, 1, none⟩ (.slice (some ⟨W0.heap.size, 0, none⟩) n n) := ⟨_, rfl⟩
    rw [← hW9] at e3 hk ⊢
    obtain ⟨⟨r0, r1⟩, rf⟩ := bx2 e3
    have hp9 := hk.own HP2.out (fun j hj e => block_notrow HZ2.out (by decide) HP2.out (by rw [hj, e]))
    have hm9 := hk.own HM2.out (fun j hj e => block_notrow HZ2.out (by decide) HM2.out (by rw [hj, e]))
    exact bodyPost_ret (v := .agg #[.slice A1 n c1, .slice (some ⟨W0.heap.size, 0, none⟩) n n]) (by simp [results, Tryz.results47, go_sem, r0, r1]) rfl ⟨A1, c1, _, n, rfl, Hc1.out, Nat.le_refl _, hp9, hm9, fun j hj e => by
      have h1 := Hdj.out j hj
      have h2 : W0.heap.size = j := by simpa [Value.ownBlock] using e
      have h3 := (Ho2.out.lt W0.heap.size rfl).2
      omega, HB2.out.trans (hk.toBelow HB2.out.size (fun j hj => by omega))⟩
end Go.Proofs.YtaccfnffmbndhaaGreat
namespace Go.Proofs.YtaccfnffmbndhaaGreat
open Go.RowKit
theorem ExOwn.keep {w w' : World} {base : Nat} {cs : List Value} {e : Ex} (h : ExOwn w base cs e) {S : Nat → Prop} (k : Keep S w w') (hS : ∀ j, S j → j < base) : ExOwn w' base cs e := by
  obtain ⟨u, v, rfl, h1, h2, h3⟩ := h
  exact ⟨u, v, rfl, k.own h1 (fun i hi hs => by have := hS i hs; have := (h1.lt i hi).1; omega), k.own h2 (fun i hi hs => by have := hS i hs; have := (h2.lt i hi).1; omega), h3⟩
def MapO (base : Nat) (w : World) (l : List Ex) (n : Nat) (v : Value) : Prop := ∃ rows, w.ownsRow base 107 2 v n (List.flatten rows) ∧ rows.length = n ∧ (∀ r ∈ rows, r.length = 2) ∧ (∀ j x, j < n → l[j]? = some x → ExOwn w base (rowOf rows j) x)
theorem MapI.own {w wr : World} {l : List Ex} {k : Nat} {v : Value} (h : MapI w wr l k v) : MapO w.heap.size wr l k v := by
  obtain ⟨rows, h1, h2, h3, h4, _⟩ := h
  exact ⟨rows, h1, h2, h3, h4⟩
theorem MapO.base {base base' : Nat} {w : World} {l : List Ex} {n : Nat} {v : Value} (h : MapO base w l n v) (hb : base' ≤ base) : MapO base' w l n v := by
  obtain ⟨rows, h1, h2, h3, h4⟩ := h
  exact ⟨rows, own_base h1 hb, h2, h3, fun j x hj hx => (h4 j x hj hx).base hb⟩
theorem MapO.keep {base : Nat} {w w' : World} {l : List Ex} {n : Nat} {v : Value} (h : MapO base w l n v) {S : Nat → Prop} (k : Keep S w w') (hS : ∀ j, S j → j < base) : MapO base w' l n v := by
  obtain ⟨rows, h1, h2, h3, h4⟩ := h
  exact ⟨rows, k.own h1 (fun i hi hs => by have := hS i hs; have := (h1.lt i hi).1; omega), h2, h3, fun j x hj hx => (h4 j x hj hx).keep k hS⟩
theorem MapO.below {base : Nat} {w w' : World} {l : List Ex} {n : Nat} {v : Value} (h : MapO base w l n v) (hb : Below w.heap.size w w') : MapO base w' l n v := h.keep (S := fun _ => False) (Keep.below hb) (fun _ h => h.elim)
theorem MapO.rd {base : Nat} {w : World} {l : List Ex} {A : Option Addr} {n c : Nat} (h : MapO base w l n (.slice A n c)) (hn : l.length = n) : SlRd rEx 2 w A l := by
  obtain ⟨rows, h1, h2, h3, h4⟩ := h
  exact ⟨rows, Rd.own h1, by omega, h3, fun j x hx => (h4 j x (by have := (List.getElem?_eq_some_iff.1 hx).1; omega) hx).rd⟩
end Go.Proofs.YtaccfnffmbndhaaGreat
namespace Go.Proofs.YtaccfnffmbndhaaGreat
open Go.RowKit
abbrev Pl := Nat × Nat × Int
end Go.Proofs.YtaccfnffmbndhaaGreat
namespace Go.Proofs.YtaccfnffmbndhaaGreat
open Go.RowKit
theorem cnt_pos {i : Inp} (h : GoodSz i.cfg.sizes) : 1 ≤ cnt i := by
  unfold cnt
  have h1 := h.1.1
  have := cntN_mono i.cfg.sizes (show 1 ≤ i.cfg.sizes.length - 1 by omega)
  have h2 : cntN i.cfg.sizes 1 = 0 + (szN i.cfg.sizes 0 + 1) * szN i.cfg.sizes 1 := rfl
  have h3 := (h.1.at (k := 1) (by omega)).1
  have h4 : 1 * 1 ≤ (szN i.cfg.sizes 0 + 1) * szN i.cfg.sizes 1 := Nat.mul_le_mul (by omega) h3
  omega
theorem et_sts : ElemT Tryz.prog 62 68 (.agg #[.slice none 0 0, .slice none 0 0]) 2 48 := ⟨Tryz.underlying62, info_parts (by kernel_rfl), rfl, by decide⟩
theorem state_ex {n base : Nat} {w w' : World} {x : Ex} {A1 A2 : Option Addr} {c1 c2 : Nat} (h1 : w'.ownsRow w.heap.size 2 1 (.slice A1 n c1) n (nums .i64 x.1)) (h2 : w'.ownsRow w.heap.size 2 1 (.slice A2 n c2) n (nums .i64 x.2)) (hb : base ≤ w.heap.size) (l1 : x.1.length = n) (l2 : x.2.length = n) (hn : n ≤ 1048576) (w1 : W64 x.1) (w2 : W64 x.2) : ExOwn w' base [.slice A1 n c1, .slice A2 n c2] x :=
  ⟨_, _, rfl, by rw [l1]; exact own_base h1 hb, by rw [l2]; exact own_base h2 hb, by omega, by omega, w1, w2⟩
def lenOf : Value → Nat
  | .slice _ n _ => n
  | _ => 0
end Go.Proofs.YtaccfnffmbndhaaGreat
namespace Go.Proofs.YtaccfnffmbndhaaGreat
open Go.RowKit
theorem bx19 {w : World} {b : Nat} {t : TypeId} {v0 v1 v2 v3 v4 v5 v6 v7 v8 v9 v10 v11 v12 v13 v14 v15 v16 v17 v18 : Value} (h : w.heap[b]? = some (.cells #[v0, v1, v2, v3, v4, v5, v6, v7, v8, v9, v10, v11, v12, v13, v14, v15, v16, v17, v18] t (0, 0))) : (w.cell? ⟨b, 0, none⟩ = some v0 ∧ w.cell? ⟨b, 1, none⟩ = some v1 ∧ w.cell? ⟨b, 2, none⟩ = some v2 ∧ w.cell? ⟨b, 3, none⟩ = some v3 ∧ w.cell? ⟨b, 4, none⟩ = some v4 ∧ w.cell? ⟨b, 5, none⟩ = some v5 ∧ w.cell? ⟨b, 6, none⟩ = some v6 ∧ w.cell? ⟨b, 7, none⟩ = some v7 ∧ w.cell? ⟨b, 8, none⟩ = some v8 ∧ w.cell? ⟨b, 9, none⟩ = some v9 ∧ w.cell? ⟨b, 10, none⟩ = some v10 ∧ w.cell? ⟨b, 11, none⟩ = some v11 ∧ w.cell? ⟨b, 12, none⟩ = some v12 ∧ w.cell? ⟨b, 13, none⟩ = some v13 ∧ w.cell? ⟨b, 14, none⟩ = some v14 ∧ w.cell? ⟨b, 15, none⟩ = some v15 ∧ w.cell? ⟨b, 16, none⟩ = some v16 ∧ w.cell? ⟨b, 17, none⟩ = some v17 ∧ w.cell? ⟨b, 18, none⟩ = some v18) ∧ ∀ j, w.frozen? ⟨b, j, none⟩ = false := by
  have := bx (vs := [v0, v1, v2, v3, v4, v5, v6, v7, v8, v9, v10, v11, v12, v13, v14, v15, v16, v17, v18]) h; simp only [Bx, Cs, Nat.reduceAdd, and_true] at this; exact ⟨this.1, this.2.2⟩
theorem ext_shape {T : TypeId} {u v : World} {b : Nat} {sz : List Int} (h : ShapeAt T u b sz) (hv : Ext u v) : ShapeAt T v b sz := by
  obtain ⟨A1, c1, A2, c2, A3, c3, h0, h1, h2, h3⟩ := h
  exact ⟨A1, c1, A2, c2, A3, c3, ext_heap (xs := [_, _, _]) h0 hv, ext_rd h1 hv, ext_rd h2 hv, ext_rd h3 hv⟩
theorem ext_samp {u v : World} {S n batch steps : Nat} {l : List Int} (h : SampAt u S n batch steps l) (hv : Ext u v) : SampAt v S n batch steps l := by
  obtain ⟨Ab, cb, Ao, co, vs, h1, h2, h3, h4, h5⟩ := h
  exact ⟨Ab, cb, Ao, co, vs, ext_heap (xs := [_, _, _]) h1 hv, ext_rd h2 hv, ext_rd h3 hv, h4, fun j hj => by
    obtain ⟨A', c', k1, k2, k3⟩ := h5 j hj
    exact ⟨A', c', k1, k2, ext_rd k3 hv⟩⟩
theorem exts_ex : Exts rEx := fun ⟨A1, c1, A2, c2, e, k1, k2⟩ hv => ⟨A1, c1, A2, c2, e, ⟨k1.hc, k1.hl, ext_rd k1.hr hv, k1.hw⟩, ⟨k2.hc, k2.hl, ext_rd k2.hr hv, k2.hw⟩⟩
theorem ext_plan {u v : World} {P : Nat} {p : Pln} {a0 a1 a2 a3 a5 a7 a11 : Value} (h : PlanAt u P p a0 a1 a2 a3 a5 a7 a11) (hb : Ext u v) : PlanAt v P p a0 a1 a2 a3 a5 a7 a11 := by
  obtain ⟨BA, bc, GA, gc, LA, lc, h1, h2, h3, h4⟩ := h
  exact ⟨BA, bc, GA, gc, LA, lc, ext_heap (xs := [_, _, _, _, _, _, _, _, _, _, _, _, _, _]) h1 hb, ext_rd h2 hb, ext_rd h3 hb, ext_rd h4 hb⟩
structure Mst where
  P : List Int
  M : List Int
  G : List Int
  rc : List Ex
  st : Nat
  nx : Nat
  op : List Nat
def plnI (i : Inp) : Pln := ⟨i.cfg.workers.toNat, i.cfg.micros.toNat, i.cfg.bucket.toNat, i.cfg.chunk.toNat, i.cfg.window.toNat, i.start.length⟩
def intsN (l : List Nat) : List Int := l.map fun j : Nat => (j : Int)
theorem intsN_len (l : List Nat) : (intsN l).length = l.length := by simp [intsN]
structure SmIn (i : Inp) : Prop where
  g : GoodIn i
  n : i.start.length ≤ 60
  w : i.cfg.workers ≤ 8
  m : i.cfg.micros ≤ 20
  s : i.cfg.steps ≤ 6
  d : i.data.length ≤ 40
theorem SmIn.ok {i : Inp} (h : SmIn i) : PlnOk (plnI i) := by
  have h1 := h.g.c.w; have h2 := h.g.c.mi; have h3 := h.g.c.bu; have h4 := h.g.c.ch; have h5 := h.g.c.wi
  have k1 := h.n; have k2 := h.w; have k3 := h.m
  exact ⟨by simp only [plnI]; omega, by simp only [plnI]; omega, by simp only [plnI]; omega, by simp only [plnI]; omega, by simp only [plnI]; omega, by simp only [plnI]; omega, by simp only [plnI]; omega, by simp only [plnI]; omega⟩
theorem SmIn.n1 {i : Inp} (h : SmIn i) : 1 ≤ (plnI i).n := by
  have := cnt_pos h.g.c.z
  have := h.g.s
  simp only [plnI]; omega
def curL (i : Inp) (x st : Nat) : List Itm := if st < i.cfg.steps.toNat then itemsL (plnI i) x st else []
structure MAd where
  F : Nat
  E : Option Addr
  ce : Nat
  S : Nat
  PP : Nat
  BA : Option Addr
  bc : Nat
  bp : Nat
  cp : Nat
  bm : Nat
  cm : Nat
  bg : Nat
  cg : Nat
  rb : Nat
  rc : Nat
  IA : Option Addr
  ic : Nat
  ov : Value
def doneN (i : Inp) (x : Nat) (m : Mst) : Nat := m.st * (itemsL (plnI i) x 0).length + m.nx
def Mut (b : Nat) (a : MAd) (k : Nat) : Prop := k = b ∨ k = a.bp ∨ k = a.bm ∨ k = a.bg ∨ k = a.rb ∨ a.ov.ownBlock = some k
abbrev mutH (H : Nat → Prop) (b : Nat) (a : MAd) : Nat → Prop := fun k => Mut b a k ∨ H k
def RecAt (V w : World) (v : Value) (l : List Ex) : Prop := ∃ rows : List (List Value), w.ownsRow 0 68 2 v l.length (List.flatten rows) ∧ rows.length = l.length ∧ (∀ r ∈ rows, r.length = 2) ∧ ∀ j x, l[j]? = some x → rEx V (rowOf rows j) x
structure MachAt (H : Nat → Prop) (w : World) (b : Nat) (i : Inp) (x : Nat) (a : MAd) (m : Mst) : Prop where
  blk : w.heap[b]? = some (.cells #[.int .i64 (x : Nat), .int .i64 i.cfg.workers, .int .i64 i.cfg.micros, .pointer (some ⟨a.F, 0, none⟩), .slice a.E i.data.length a.ce, .pointer (some ⟨a.S, 0, none⟩), .pointer (some ⟨a.PP, 0, none⟩), .slice a.BA (plnI i).buks.length a.bc, .int .i64 i.cfg.rate, .int .i64 i.cfg.mom, .int .i64 i.cfg.shift, .slice (some ⟨a.bp, 0, none⟩) i.start.length a.cp, .slice (some ⟨a.bm, 0, none⟩) i.start.length a.cm, .slice (some ⟨a.bg, 0, none⟩) i.start.length a.cg, .slice (some ⟨a.rb, 0, none⟩) m.rc.length a.rc, .slice a.IA (curL i x m.st).length a.ic, .int .i64 (m.nx : Nat), .int .i64 (doneN i x m : Nat), a.ov] 130 (0, 0))
  sh : ShapeAt 186 (hideW (mutH H b a) w) a.F i.cfg.sizes
  ex : SlRd rEx 2 (hideW (mutH H b a) w) a.E i.data
  sa : SampAt (hideW (mutH H b a) w) a.S i.data.length i.cfg.batch.toNat i.cfg.steps.toNat i.draws
  pl : ∃ a0 a1 a2 a3 a5 a11, PlanAt (hideW (mutH H b a) w) a.PP (plnI i) a0 a1 a2 a3 a5 (.int .i64 (i.cfg.steps.toNat : Nat)) a11
  bu : Rd (hideW (mutH H b a) w) a.BA (rgVals (plnI i).buks)
  it : Rd (hideW (mutH H b a) w) a.IA (itVals (curL i x m.st))
  re : RecAt (hideW (mutH H b a) w) w (.slice (some ⟨a.rb, 0, none⟩) m.rc.length a.rc) m.rc
  oP : w.ownsRow 0 2 1 (.slice (some ⟨a.bp, 0, none⟩) i.start.length a.cp) i.start.length (nums .i64 m.P)
  oM : w.ownsRow 0 2 1 (.slice (some ⟨a.bm, 0, none⟩) i.start.length a.cm) i.start.length (nums .i64 m.M)
  oG : w.ownsRow 0 2 1 (.slice (some ⟨a.bg, 0, none⟩) i.start.length a.cg) i.start.length (nums .i64 m.G)
  oO : w.ownsRow 0 3 1 a.ov m.op.length (nums .i64 (intsN m.op))
  dj : a.bp ≠ a.bm ∧ a.bp ≠ a.bg ∧ a.bm ≠ a.bg
  hH : ∀ k, k < w.heap.size → Mut b a k → ¬ H k
  wP : m.P.length = i.start.length ∧ W64 m.P
  wM : m.M.length = i.start.length ∧ W64 m.M
  wG : m.G.length = i.start.length ∧ W64 m.G
  ox : m.nx < (curL i x m.st).length ∨ (m.nx = 0 ∧ i.cfg.steps.toNat ≤ m.st)
  xw : x < (plnI i).W
theorem RecAt.ext {V V' w w' : World} {v : Value} {l : List Ex} (h : RecAt V w v l) (he : Ext V V') (ho : ∀ e size n xs, w.ownsRow 0 e size v n xs → w'.ownsRow 0 e size v n xs) : RecAt V' w' v l := by
  obtain ⟨rows, h1, h2, h3, h4⟩ := h
  exact ⟨rows, ho _ _ _ _ h1, h2, h3, fun j x hx => exts_ex (h4 j x hx) he⟩
theorem MachAt.step {H H' : Nat → Prop} {w w' : World} {b x : Nat} {i : Inp} {a : MAd} {m : Mst} (h : MachAt H w b i x a m) (hk : Keep H w w') (hs : ∀ k, k < w.heap.size → H' k → H k) (hn : ∀ k, Mut b a k → ¬ H' k) : MachAt H' w' b i x a m := by
  have he : Ext (hideW (mutH H b a) w) (hideW (mutH H' b a) w') := ext_step (hk.mono fun k _ h => .inr h) (fun k hl hS => hS.imp id (hs k hl))
  have hb : ∀ k, k < w.heap.size → Mut b a k → w'.heap[k]? = w.heap[k]? := fun k hl hm => hk.block k hl (h.hH k hl hm)
  have ho : ∀ (v : Value) e size n xs, (∀ k, v.ownBlock = some k → Mut b a k) → w.ownsRow 0 e size v n xs → w'.ownsRow 0 e size v n xs := fun v e size n xs hv ho => hk.own ho fun k hk' => h.hH k (ho.lt k hk').2 (hv k hk')
  have bp : ∀ k, (Value.slice (some ⟨a.bp, 0, none⟩) i.start.length a.cp).ownBlock = some k → Mut b a k := fun k e => by cases e; exact .inr (.inl rfl)
  have bm : ∀ k, (Value.slice (some ⟨a.bm, 0, none⟩) i.start.length a.cm).ownBlock = some k → Mut b a k := fun k e => by cases e; exact .inr (.inr (.inl rfl))
  have bg : ∀ k, (Value.slice (some ⟨a.bg, 0, none⟩) i.start.length a.cg).ownBlock = some k → Mut b a k := fun k e => by cases e; exact .inr (.inr (.inr (.inl rfl)))
  have rb : ∀ k, (Value.slice (some ⟨a.rb, 0, none⟩) m.rc.length a.rc).ownBlock = some k → Mut b a k := fun k e => by cases e; exact .inr (.inr (.inr (.inr (.inl rfl))))
  have ov : ∀ k, a.ov.ownBlock = some k → Mut b a k := fun k e => .inr (.inr (.inr (.inr (.inr e))))
  obtain ⟨a0, a1, a2, a3, a5, a11, hp⟩ := h.pl
  exact ⟨(hb b (lt_of_block h.blk) (.inl rfl)).trans h.blk, ext_shape h.sh he, ext_sl exts_ex h.ex he, ext_samp h.sa he, ⟨a0, a1, a2, a3, a5, a11, ext_plan hp he⟩, ext_rd h.bu he, ext_rd h.it he,
    h.re.ext he (fun e size n xs => ho _ e size n xs rb), ho _ _ _ _ _ bp h.oP, ho _ _ _ _ _ bm h.oM, ho _ _ _ _ _ bg h.oG, ho _ _ _ _ _ ov h.oO, h.dj, fun k _ hm => hn k hm, h.wP, h.wM, h.wG, h.ox, h.xw⟩
theorem MachAt.below {H : Nat → Prop} {w w' : World} {b x : Nat} {i : Inp} {a : MAd} {m : Mst} (h : MachAt H w b i x a m) (hb : Below w.heap.size w w') (hn : ∀ k, Mut b a k → ¬ H k) : MachAt H w' b i x a m := h.step (Keep.below hb) (fun _ _ h => h) hn
end Go.Proofs.YtaccfnffmbndhaaGreat
