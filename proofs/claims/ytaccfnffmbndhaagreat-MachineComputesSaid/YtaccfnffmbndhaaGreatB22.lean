/- The walks of package sgd: Clone, Start, Next. The walks of Sampler's Steps, Epoch, view, Batch. Picked examples lie in rows of the call's own. The places of a network's parameters, and the gradient place by place, in plain lists. What a run reckons, in plain words: sums of gradients, the trajectory; states in a row. No condition. -/
import Derived.Test.YtaccfnffmbndhaaGreatB04
import Derived.Test.YtaccfnffmbndhaaGreatB21
import Derived.Test.YtaccfnffmbndhaaGreatB20
import Derived.Test.YtaccfnffmbndhaaGreatB14
import Derived.Test.YtaccfnffmbndhaaGreatB18
import Derived.Test.YtaccfnffmbndhaaGreatB16
set_option linter.unusedSimpArgs false
set_option linter.unusedVariables false
namespace Go.Proofs.YtaccfnffmbndhaaGreat
open Go.RowKit
set_option maxRecDepth 100000 in
set_option maxHeartbeats 1000000 in
theorem stclone_any (A B:Option Addr) (n c d:Nat) (ps ms:List Int) (w:World) (hA:Rd w A (nums .i64 ps)) (hB:Rd w B (nums .i64 ms)) (hpl:ps.length = n) (hml:ms.length = n) (hn:n ≤ 1048576) :
    Calls Tryz.prog 50 #[.agg #[.slice A n c,.slice B n d]] w fun e w' => ∃ A1 c1 A2 c2,e = .returned (.agg #[.slice A1 n c1,.slice A2 n c2]) ∧ n ≤ c1 ∧ n ≤ c2 ∧ w'.ownsRow w.heap.size 2 1 (.slice A1 n c1) n (nums .i64 ps) ∧ w'.ownsRow w.heap.size 2 1 (.slice A2 n c2) n (nums .i64 ms) ∧
      (∀ j,(Value.slice A1 n c1).ownBlock = some j → (Value.slice A2 n c2).ownBlock ≠ some j) ∧ Below w.heap.size w w':=by
  have hcx:=fun w' (k:Below w.heap.size w w') => vclone_any A ps c w' (hA.below k) (by omega)
  have hcy:=fun w' (k:Below w.heap.size w w') => vclone_any B ms d w' (hB.below k) (by omega)
  rw [hpl] at hcx
  rw [hml] at hcy
  have Hcx:=Lib.hid hcx;have Hcy:=Lib.hid hcy
  clear hcx hcy hpl hml hA hB
  go_enter Tryz.func50,Tryz.ntmps50
  go_wp2_with fail
  have hz:=heap_alloc_new (w.alloc (.cells #[.slice A n c,.slice B n d] 68)) (.cells #[.slice none 0 0,.slice none 0 0] 68)
  rw [show (w.alloc (.cells #[.slice A n c,.slice B n d] 68)).heap.size = w.heap.size + 1 by simp] at hz
  have hy:=(Below.heap_alloc (w.alloc (.cells #[.slice A n c,.slice B n d] 68)) (.cells #[.slice none 0 0,.slice none 0 0] 68) w.heap.size (by simp)).trans (heap_alloc_new w _)
  have hB0:Below w.heap.size w ((w.alloc (.cells #[.slice A n c,.slice B n d] 68)).alloc (.cells #[.slice none 0 0,.slice none 0 0] 68)):=((Below.refl _ w).alloc (Nat.le_refl _) _).alloc (by simp) _
  have hs0:((w.alloc (.cells #[.slice A n c,.slice B n d] 68)).alloc (.cells #[.slice none 0 0,.slice none 0 0] 68)).heap.size = w.heap.size + 2:=by simp
  obtain ⟨W0,hW0⟩:∃ W0,W0 = (w.alloc (.cells #[.slice A n c,.slice B n d] 68)).alloc (.cells #[.slice none 0 0,.slice none 0 0] 68):=⟨_,rfl⟩
  rw [← hW0] at hz hy hB0 hs0 ⊢
  obtain ⟨⟨y0,y1⟩,yf⟩:=bx2 hy
  have Hz:=Lib.hid hz;have HB0:=Lib.hid hB0;have Hs0:=Lib.hid hs0
  clear hz hy hB0 hs0 hW0
  have hSw:(fun w':World => w'.cell? ⟨w.heap.size,0,none⟩ = some (.slice A n c) ∧ w'.cell? ⟨w.heap.size,1,none⟩ = some (.slice B n d)) W0.drew:=⟨y0,y1⟩
  refine XA.g 7 (fun w':World => w'.cell? ⟨w.heap.size,0,none⟩ = some (.slice A n c) ∧ w'.cell? ⟨w.heap.size,1,none⟩ = some (.slice B n d)) ?_
  refine XA.t ?_ [0,1,3,4] hSw ?_
  refine XA.o 2 (fun K hK => ?_)
  go_simp
  refine (Hcx.out _ HB0.out.drew).mono ?_
  rintro e w1 ⟨A1,c1,rfl,hcu,hou,hb1⟩
  have Hcu:=Lib.hid hcu;clear hcu
  have hS1:=And.intro (cell_below hb1 hSw.1) (cell_below hb1 hSw.2)
  have hz1:=(hb1.block (w.heap.size + 1) (by simp [Hs0.out])).trans Hz.out
  have hB1:=HB0.out.drew.trans (hb1.mono (by simp [Hs0.out]))
  have hs1:=hb1.size
  simp only [World.size_drew,Hs0.out] at hs1
  have hou:=own_base (base':=w.heap.size) hou (by simp [Hs0.out])
  have Hou:=Lib.hid hou;have Hz1:=Lib.hid hz1;have HB1:=Lib.hid hB1;clear hou hz1 hB1 hb1 hSw
  dsimp only
  refine hK.out _ _ hS1 (fun hSw => ?_)
  clear hK K hS1
  refine XA.o 5 (fun K hK => ?_)
  go_simp
  refine (Hcy.out _ HB1.out).mono ?_
  rintro e w2 ⟨A2,c2,rfl,hcv,hov,hb2⟩
  have hdis:∀ j,(Value.slice A1 n c1).ownBlock = some j → (Value.slice A2 n c2).ownBlock ≠ some j:=fun j h1 h2 => by have:=(Hou.out.lt j h1).2;have:=(hov.lt j h2).1;omega
  have Hcv:=Lib.hid hcv;have Hdis:=Lib.hid hdis;clear hcv hdis
  have hS2:=And.intro (cell_below hb2 hSw.1) (cell_below hb2 hSw.2)
  have hz2:=(hb2.block (w.heap.size + 1) (by omega)).trans Hz1.out
  have hB2:=HB1.out.trans (hb2.mono HB1.out.size)
  have hs2:=hb2.size
  have hov:=own_base (base':=w.heap.size) hov HB1.out.size
  have hou2:=own_below Hou.out hb2
  obtain ⟨⟨z0,z1⟩,zf⟩:=bx2 hz2
  have l2:w.heap.size + 1 < w2.heap.size:=lt_of_block hz2
  have Hov:=Lib.hid hov;have Hou2:=Lib.hid hou2;have Hz2:=Lib.hid hz2;have HB2:=Lib.hid hB2;clear hov hou2 hz2 hB2 hb2 hSw
  dsimp only
  refine hK.out _ _ hS2 (fun hSw => ?_)
  clear hK K hS2
  refine XA.t ?_ [6] hSw ?_
  refine XA.e ?_
  clear hSw
  simp only [List.drop_succ_cons,List.drop_zero]
  go_wp2_with fail
  have e1:=heap_setCell_same w2 (w.heap.size + 1) 0 _ _ (.slice A1 n c1) Hz2.out
  have e2:=heap_setCell_same _ (w.heap.size + 1) 1 _ _ (.slice A2 n c2) e1
  have e3:((w2.setCell ⟨w.heap.size + 1,0,none⟩ (.slice A1 n c1)).setCell ⟨w.heap.size + 1,1,none⟩ (.slice A2 n c2)).heap[w.heap.size + 1]? = some (.cells #[(.slice A1 n c1),(.slice A2 n c2)] 68 (0,0)):=by simpa using e2
  have hk:Keep (fun j => j = w.heap.size + 1) w2 ((w2.setCell ⟨w.heap.size + 1,0,none⟩ (.slice A1 n c1)).setCell ⟨w.heap.size + 1,1,none⟩ (.slice A2 n c2)):=Keep.setCell (S:=fun j => j = w.heap.size + 1) (Keep.setCell (S:=fun j => j = w.heap.size + 1) (Keep.refl _ _) ⟨w.heap.size + 1,0,none⟩ (.inr rfl) _) ⟨w.heap.size + 1,1,none⟩ (.inr rfl) _
  obtain ⟨W9,hW9⟩:∃ W9,W9 = (w2.setCell ⟨w.heap.size + 1,0,none⟩ (.slice A1 n c1)).setCell ⟨w.heap.size + 1,1,none⟩ (.slice A2 n c2):=⟨_,rfl⟩
  rw [← hW9] at e3 hk ⊢
  obtain ⟨⟨x0,x1⟩,xf⟩:=bx2 e3
  have hu9:=hk.own Hou2.out (fun j hj e => block_notrow Hz2.out (by decide) Hou2.out (by rw [hj,e]))
  have hv9:=hk.own Hov.out (fun j hj e => block_notrow Hz2.out (by decide) Hov.out (by rw [hj,e]))
  have hb9:Below w.heap.size w W9:=HB2.out.trans (hk.toBelow (by omega) (fun j hj => by omega))
  exact bodyPost_ret (v:=.agg #[.slice A1 n c1,.slice A2 n c2]) (by simp [results,Tryz.results50,go_sem,x0,x1]) rfl ⟨A1,c1,A2,c2,rfl,Hcu.out,Hcv.out,hu9,hv9,Hdis.out,hb9⟩
set_option maxRecDepth 100000 in
set_option maxHeartbeats 1000000 in
theorem startD_any (A:Option Addr) (n c:Nat) (ps:List Int) (w:World) (hA:Rd w A (nums .i64 ps)) (hpl:ps.length = n) (hn:n ≤ 1048576) :
    Calls Tryz.prog 47 #[.slice A n c] w fun e w' => ∃ A1 c1 A2 c2,e = .returned (.agg #[.slice A1 n c1,.slice A2 n c2]) ∧ n ≤ c1 ∧ n ≤ c2 ∧ w'.ownsRow w.heap.size 2 1 (.slice A1 n c1) n (nums .i64 ps) ∧ w'.ownsRow w.heap.size 2 1 (.slice A2 n c2) n (nums .i64 (List.replicate n 0)) ∧ (∀ j,(Value.slice A1 n c1).ownBlock = some j → (Value.slice A2 n c2).ownBlock ≠ some j) ∧ Below w.heap.size w w':=by
  have hcx:=fun w' (k:Below w.heap.size w w') => vclone_any A ps c w' (hA.below k) (by omega)
  rw [hpl] at hcx
  have Hcx:=Lib.hid hcx
  have hmk:=fun w' => run_mk et_vec w' rfl n (by omega) (by unfold maxLen;omega)
  simp only [nums_rep] at hmk
  have Hmk:=Lib.hid hmk
  clear hcx hpl hA hmk
  go_enter Tryz.func47,Tryz.ntmps47
  go_wp2_with fail
  have hz:=heap_alloc_new w (.cells #[.slice none 0 0,.slice none 0 0] 68)
  have hB0:Below w.heap.size w (w.alloc (.cells #[.slice none 0 0,.slice none 0 0] 68)):=(Below.refl _ w).alloc (Nat.le_refl _) _
  obtain ⟨W0,hW0⟩:∃ W0,W0 = w.alloc (.cells #[.slice none 0 0,.slice none 0 0] 68):=⟨_,rfl⟩
  rw [← hW0] at hz hB0 ⊢
  have hl0:=lt_of_block hz
  have HZ:=Lib.hid hz;have HB0:=Lib.hid hB0
  clear hz hB0 hW0
  have hSw:(fun _:World => True) W0.drew:=trivial
  refine wp_region_X 6 (fun _:World => True) (by kernel_rfl) ?_
  refine wpAnyX_take (i:=0) (v:=?_) rfl (by kernel_rfl) (by decide) (by kernel_rfl) (by kernel_rfl) (by kernel_rfl) (by kernel_rfl) (fun _ _ _ h => h) (Or.inl ⟨by rfl,?_⟩) hSw ?_
  rotate_left
  · intro w9 hS9;(try dsimp only at hS9);have s1:=hS9;go_simp;(try with_reducible rfl)
  simp only [List.getElem_toArray,List.getElem_cons_succ,List.getElem_cons_zero,Act.put,List.setIfInBounds_toArray,List.set_cons_zero,List.set_cons_succ]
  refine wpAnyX_take (i:=2) (v:=?_) rfl (by kernel_rfl) (by decide) (by kernel_rfl) (by kernel_rfl) (by kernel_rfl) (by kernel_rfl) (fun _ _ _ h => h) (Or.inl ⟨by rfl,?_⟩) hSw ?_
  rotate_left
  · intro w9 hS9;(try dsimp only at hS9);have s1:=hS9;go_simp;(try with_reducible rfl)
  simp only [List.getElem_toArray,List.getElem_cons_succ,List.getElem_cons_zero,Act.put,List.setIfInBounds_toArray,List.set_cons_zero,List.set_cons_succ]
  refine wpAnyX_take (i:=3) (v:=?_) rfl (by kernel_rfl) (by decide) (by kernel_rfl) (by kernel_rfl) (by kernel_rfl) (by kernel_rfl) (fun _ _ _ h => h) (Or.inl ⟨by rfl,?_⟩) hSw ?_
  rotate_left
  · intro w9 hS9;(try dsimp only at hS9);have s1:=hS9;go_simp;(try with_reducible rfl)
  simp only [List.getElem_toArray,List.getElem_cons_succ,List.getElem_cons_zero,Act.put,List.setIfInBounds_toArray,List.set_cons_zero,List.set_cons_succ]
  refine wpAnyX_ready (rs:=[1,4]) (by kernel_rfl) (by simp) ?_
  refine AllReadyX.cons rfl (fun K hK => ?_) (AllReadyX.cons rfl (fun K hK => ?_) AllReadyX.nil)
  · simp only [List.getElem_toArray,List.getElem_cons_succ,List.getElem_cons_zero]
    go_simp
    refine (Hcx.out _ HB0.out.drew).mono ?_
    rintro e w1 ⟨A1,c1,rfl,hc1,ho1,hb1⟩
    have hB1:=HB0.out.drew.trans (hb1.mono HB0.out.size)
    have hz1:=(hb1.block w.heap.size (by simpa using hl0)).trans HZ.out
    have ho1':=own_base (base':=w.heap.size) ho1 (by have:=HB0.out.size;simpa using this)
    have hs1:=hb1.size
    have hdj:∀ j,(Value.slice A1 n c1).ownBlock = some j → j < w1.heap.size:=fun j hj => (ho1.lt j hj).2
    have Hdj:=Lib.hid hdj
    clear hdj
    simp only [World.size_drew] at hs1
    have HB1:=Lib.hid hB1;have HZ1:=Lib.hid hz1;have Ho1:=Lib.hid ho1';have Hc1:=Lib.hid hc1;clear hb1 hB1 hz1 ho1 ho1' hc1
    dsimp only
    refine hK.out _ _ trivial (fun hSw => ?_)
    clear hK K hSw
    refine wpAnyX_ready (rs:=[4]) (by kernel_rfl) (by simp) ?_
    refine AllReadyX.cons rfl (fun K hK => ?_) AllReadyX.nil
    simp only [List.getElem_toArray,List.getElem_cons_succ,List.getElem_cons_zero]
    obtain ⟨V,hrun,ho2,hb2⟩:=Hmk.out w1
    have HM2:=Lib.hid (own_base (base':=w.heap.size) ho2 HB1.out.size);have HB2:=Lib.hid (HB1.out.trans (hb2.mono HB1.out.size));have HZ2:=Lib.hid ((hb2.block w.heap.size (by omega)).trans HZ1.out);have HP2:=Lib.hid (own_below Ho1.out hb2)
    have hz2:=HZ2.out
    obtain ⟨⟨z0,z1⟩,zf⟩:=bx2 hz2
    have hl2:=lt_of_block hz2
    clear ho2 hb2 hz2
    go_simp
    refine hK.out _ _ trivial (fun hSw => ?_)
    clear hK K hrun
    refine wpAnyX_take (i:=5) (v:=?_) rfl (by kernel_rfl) (by decide) (by kernel_rfl) (by kernel_rfl) (by kernel_rfl) (by kernel_rfl) (fun _ _ _ h => h) (Or.inl ⟨by rfl,?_⟩) hSw ?_
    rotate_left
    · intro w9 hS9;(try dsimp only at hS9);have s1:=hS9;go_simp;(try with_reducible rfl)
    simp only [List.getElem_toArray,List.getElem_cons_succ,List.getElem_cons_zero,Act.put,List.setIfInBounds_toArray,List.set_cons_zero,List.set_cons_succ]
    refine wpAnyX_tail (by rfl) (by kernel_rfl) ?_
    simp only [List.drop_succ_cons,List.drop_zero]
    go_wp2_with fail
    have e1:=heap_setCell_same V w.heap.size 0 _ _ (.slice A1 n c1) HZ2.out
    have e2:=heap_setCell_same _ w.heap.size 1 _ _ (.slice (some ⟨w1.heap.size,0,none⟩) n n) e1
    have e3:((V.setCell ⟨w.heap.size,0,none⟩ (.slice A1 n c1)).setCell ⟨w.heap.size,1,none⟩ (.slice (some ⟨w1.heap.size,0,none⟩) n n)).heap[w.heap.size]? = some (.cells #[.slice A1 n c1,.slice (some ⟨w1.heap.size,0,none⟩) n n] 68 (0,0)):=by simpa using e2
    have hk:Keep (fun j => j = w.heap.size) V ((V.setCell ⟨w.heap.size,0,none⟩ (.slice A1 n c1)).setCell ⟨w.heap.size,1,none⟩ (.slice (some ⟨w1.heap.size,0,none⟩) n n)):=Keep.setCell (S:=fun j => j = w.heap.size) (Keep.setCell (S:=fun j => j = w.heap.size) (Keep.refl _ _) ⟨w.heap.size,0,none⟩ (.inr rfl) _) ⟨w.heap.size,1,none⟩ (.inr rfl) _
    obtain ⟨W9,hW9⟩:∃ W9,W9 = (V.setCell ⟨w.heap.size,0,none⟩ (.slice A1 n c1)).setCell ⟨w.heap.size,1,none⟩ (.slice (some ⟨w1.heap.size,0,none⟩) n n):=⟨_,rfl⟩
    rw [← hW9] at e3 hk ⊢
    obtain ⟨⟨r0,r1⟩,rf⟩:=bx2 e3
    have hp9:=hk.own HP2.out (fun j hj e => block_notrow HZ2.out (by decide) HP2.out (by rw [hj,e]))
    have hm9:=hk.own HM2.out (fun j hj e => block_notrow HZ2.out (by decide) HM2.out (by rw [hj,e]))
    exact bodyPost_ret (v:=.agg #[.slice A1 n c1,.slice (some ⟨w1.heap.size,0,none⟩) n n]) (by simp [results,Tryz.results47,go_sem,r0,r1]) rfl ⟨A1,c1,_,n,rfl,Hc1.out,Nat.le_refl _,hp9,hm9,fun j hj e => by
      have h1:=Hdj.out j hj
      have h2:w1.heap.size = j:=by simpa [Value.ownBlock] using e
      omega,HB2.out.trans (hk.toBelow HB2.out.size (fun j hj => by omega))⟩
  · simp only [List.getElem_toArray,List.getElem_cons_succ,List.getElem_cons_zero]
    obtain ⟨w1,hrun,ho2,hb2⟩:=Hmk.out W0.drew
    have hB1:=HB0.out.drew.trans (hb2.mono HB0.out.size)
    have hz1:=(hb2.block w.heap.size (by simpa using hl0)).trans HZ.out
    have ho2':=own_base (base':=w.heap.size) ho2 (by have:=HB0.out.size;simpa using this)
    have hs1:=hb2.size
    simp only [World.size_drew] at hs1 ho2' hrun
    have HB1:=Lib.hid hB1;have HZ1:=Lib.hid hz1;have Ho2:=Lib.hid ho2';clear hb2 hB1 hz1 ho2 ho2'
    go_simp
    refine hK.out _ _ trivial (fun hSw => ?_)
    clear hK K hrun
    refine wpAnyX_ready (rs:=[1]) (by kernel_rfl) (by simp) ?_
    refine AllReadyX.cons rfl (fun K hK => ?_) AllReadyX.nil
    simp only [List.getElem_toArray,List.getElem_cons_succ,List.getElem_cons_zero]
    go_simp
    refine (Hcx.out _ HB1.out).mono ?_
    rintro e V ⟨A1,c1,rfl,hc1,ho1,hb1⟩
    have hdj:∀ j,(Value.slice A1 n c1).ownBlock = some j → w1.heap.size ≤ j:=fun j hj => (ho1.lt j hj).1
    have Hdj:=Lib.hid hdj
    clear hdj
    have HP2:=Lib.hid (own_base (base':=w.heap.size) ho1 HB1.out.size);have HB2:=Lib.hid (HB1.out.trans (hb1.mono HB1.out.size));have HZ2:=Lib.hid ((hb1.block w.heap.size (by omega)).trans HZ1.out);have HM2:=Lib.hid (own_below Ho2.out hb1);have Hc1:=Lib.hid hc1
    have hz2:=HZ2.out
    obtain ⟨⟨z0,z1⟩,zf⟩:=bx2 hz2
    have hl2:=lt_of_block hz2
    clear ho1 hb1 hz2 hc1
    dsimp only
    refine hK.out _ _ trivial (fun hSw => ?_)
    clear hK K
    refine wpAnyX_take (i:=5) (v:=?_) rfl (by kernel_rfl) (by decide) (by kernel_rfl) (by kernel_rfl) (by kernel_rfl) (by kernel_rfl) (fun _ _ _ h => h) (Or.inl ⟨by rfl,?_⟩) hSw ?_
    rotate_left
    · intro w9 hS9;(try dsimp only at hS9);have s1:=hS9;go_simp;(try with_reducible rfl)
    simp only [List.getElem_toArray,List.getElem_cons_succ,List.getElem_cons_zero,Act.put,List.setIfInBounds_toArray,List.set_cons_zero,List.set_cons_succ]
    refine wpAnyX_tail (by rfl) (by kernel_rfl) ?_
    simp only [List.drop_succ_cons,List.drop_zero]
    go_wp2_with fail
    have e1:=heap_setCell_same V w.heap.size 0 _ _ (.slice A1 n c1) HZ2.out
    have e2:=heap_setCell_same _ w.heap.size 1 _ _ (.slice (some ⟨W0.heap.size,0,none⟩) n n) e1
    have e3:((V.setCell ⟨w.heap.size,0,none⟩ (.slice A1 n c1)).setCell ⟨w.heap.size,1,none⟩ (.slice (some ⟨W0.heap.size,0,none⟩) n n)).heap[w.heap.size]? = some (.cells #[.slice A1 n c1,.slice (some ⟨W0.heap.size,0,none⟩) n n] 68 (0,0)):=by simpa using e2
    have hk:Keep (fun j => j = w.heap.size) V ((V.setCell ⟨w.heap.size,0,none⟩ (.slice A1 n c1)).setCell ⟨w.heap.size,1,none⟩ (.slice (some ⟨W0.heap.size,0,none⟩) n n)):=Keep.setCell (S:=fun j => j = w.heap.size) (Keep.setCell (S:=fun j => j = w.heap.size) (Keep.refl _ _) ⟨w.heap.size,0,none⟩ (.inr rfl) _) ⟨w.heap.size,1,none⟩ (.inr rfl) _
    obtain ⟨W9,hW9⟩:∃ W9,W9 = (V.setCell ⟨w.heap.size,0,none⟩ (.slice A1 n c1)).setCell ⟨w.heap.size,1,none⟩ (.slice (some ⟨W0.heap.size,0,none⟩) n n):=⟨_,rfl⟩
    rw [← hW9] at e3 hk ⊢
    obtain ⟨⟨r0,r1⟩,rf⟩:=bx2 e3
    have hp9:=hk.own HP2.out (fun j hj e => block_notrow HZ2.out (by decide) HP2.out (by rw [hj,e]))
    have hm9:=hk.own HM2.out (fun j hj e => block_notrow HZ2.out (by decide) HM2.out (by rw [hj,e]))
    exact bodyPost_ret (v:=.agg #[.slice A1 n c1,.slice (some ⟨W0.heap.size,0,none⟩) n n]) (by simp [results,Tryz.results47,go_sem,r0,r1]) rfl ⟨A1,c1,_,n,rfl,Hc1.out,Nat.le_refl _,hp9,hm9,fun j hj e => by
      have h1:=Hdj.out j hj
      have h2:W0.heap.size = j:=by simpa [Value.ownBlock] using e
      have h3:=(Ho2.out.lt W0.heap.size rfl).2
      omega,HB2.out.trans (hk.toBelow HB2.out.size (fun j hj => by omega))⟩
end Go.Proofs.YtaccfnffmbndhaaGreat
namespace Go.Proofs.YtaccfnffmbndhaaGreat
open Go.RowKit
theorem ssteps_any (S n b steps:Nat) (l:List Int) (w:World) (h:SampAt w S n b steps l) :
    Calls Tryz.prog 212 #[.pointer (some ⟨S,0,none⟩)] w fun e w' => e = .returned (.int .i64 steps) ∧ w = w':=by
  obtain ⟨Ab,cb,Ao,co,vs,h1,h2,h3,h4,h5⟩:=h
  obtain ⟨⟨r0,r1,r2,r3⟩,rf⟩:=bx4 h1
  clear h1 h2 h3 h4 h5
  go_enter Tryz.func212,Tryz.ntmps212
  go_wp2
  go_ret
  exact ⟨rfl,rfl⟩
theorem sepoch_any (S n b steps t:Nat) (l:List Int) (w:World) (h:SampAt w S n b steps l) (hn:n ≤ 1048576) (hnb:1 ≤ n / b) (hst:steps ≤ 1048576) (ht:t < steps) :
    Calls Tryz.prog 194 #[.pointer (some ⟨S,0,none⟩),.int .i64 t] w fun e w' => e = .returned (.tuple #[.int .i64 ((t / (n / b):Nat):Int),.int .i64 ((t % (n / b):Nat):Int),.bool true]) ∧ ∃ d,w' = w.drewN d:=by
  have hs:=ssteps_any S n b steps l w h
  obtain ⟨Ab,cb,Ao,co,vs,h1,h2,h3,h4,h5⟩:=h
  have hle:=Nat.div_le_self n b
  obtain ⟨nb,hnb'⟩:∃ nb,n / b = nb:=⟨_,rfl⟩
  rw [hnb'] at h1 hnb hle ⊢
  obtain ⟨⟨r0,r1,r2,r3⟩,rf⟩:=bx4 h1
  obtain ⟨e0,he0⟩:∃ e0,t / nb = e0:=⟨_,rfl⟩
  obtain ⟨p0,hp0⟩:∃ p0,t % nb = p0:=⟨_,rfl⟩
  have hq1:(t:Int).tdiv (nb:Int) = (e0:Int):=by rw [← he0];rfl
  have hq2:(t:Int).tmod (nb:Int) = (p0:Int):=by rw [← hp0];rfl
  have he1:e0 ≤ t:=by rw [← he0];exact Nat.div_le_self _ _
  have hp1:p0 ≤ t:=by rw [← hp0];exact Nat.mod_le _ _
  have hq3:IntKind.i64.wrap (e0:Int) = (e0:Int):=IntWalk.i64_in _ (by omega)
  have hq4:IntKind.i64.wrap (p0:Int) = (p0:Int):=IntWalk.i64_in _ (by omega)
  have hq5:¬ (nb = 0):=by omega
  have hti:(t:Int) < steps:=by omega
  have ht0:¬ ((t:Int) < 0):=by omega
  have hti2:¬ ((steps:Int) ≤ t):=by omega
  rw [he0,hp0]
  have Hs:=Lib.hid hs;clear hs h1 h2 h3 h4 h5 hnb' he0 hp0
  go_enter Tryz.func194,Tryz.ntmps194
  go_wp2_with fail
  refine Hs.out.mono ?_
  rintro e w' ⟨rfl,rfl⟩
  go_wp2_with fail
  go_quiet (fail)
  go_wp2_with fail
  go_ret3
  exact ⟨rfl,_,rfl⟩
def batchN (l:List Int) (n b t:Nat):List Int:=((permN l n ((t / (n / b)) * (n - 1))).drop (t % (n / b) * b)).take b
theorem epoch_lt {n b steps t:Nat} (ht:t < steps):t / (n / b) < epN n b steps:=by
  unfold epN cntQ
  rw [if_neg (by omega)]
  have:=Nat.div_le_div_right (c:=n / b) (show t ≤ steps - 1 by omega)
  omega
theorem batchN_len (l:List Int) {n b t:Nat} (hnb:1 ≤ n / b):(batchN l n b t).length = b:=by
  unfold batchN
  have h1:=whole_le n b (t % (n / b)) (Nat.mod_lt _ hnb)
  rw [List.length_take,List.length_drop,permN_len]
  omega
theorem batchN_bd (l:List Int) {n b t:Nat} (hnb:1 ≤ n / b):∀ k,k < b → 0 ≤ nth (batchN l n b t) k ∧ nth (batchN l n b t) k < n:=fun k hk => by
  have h1:=whole_le n b (t % (n / b)) (Nat.mod_lt _ hnb)
  unfold batchN
  rw [nth_take hk,nth_drop]
  exact permN_bd l n _ _ (by omega)
end Go.Proofs.YtaccfnffmbndhaaGreat
namespace Go.Proofs.YtaccfnffmbndhaaGreat
open Go.RowKit
theorem ExOwn.keep {w w':World} {base:Nat} {cs:List Value} {e:Ex} (h:ExOwn w base cs e) {S:Nat → Prop} (k:Keep S w w') (hS:∀ j,S j → j < base):ExOwn w' base cs e:=by
  obtain ⟨u,v,rfl,h1,h2,h3⟩:=h
  exact ⟨u,v,rfl,k.own h1 (fun i hi hs => by have:=hS i hs;have:=(h1.lt i hi).1;omega),k.own h2 (fun i hi hs => by have:=hS i hs;have:=(h2.lt i hi).1;omega),h3⟩
def MapO (base:Nat) (w:World) (l:List Ex) (n:Nat) (v:Value):Prop:=∃ rows,w.ownsRow base 107 2 v n (List.flatten rows) ∧ rows.length = n ∧ (∀ r ∈ rows,r.length = 2) ∧ (∀ j x,j < n → l[j]? = some x → ExOwn w base (rowOf rows j) x)
theorem MapI.own {w wr:World} {l:List Ex} {k:Nat} {v:Value} (h:MapI w wr l k v):MapO w.heap.size wr l k v:=by
  obtain ⟨rows,h1,h2,h3,h4,_⟩:=h
  exact ⟨rows,h1,h2,h3,h4⟩
theorem MapO.base {base base':Nat} {w:World} {l:List Ex} {n:Nat} {v:Value} (h:MapO base w l n v) (hb:base' ≤ base):MapO base' w l n v:=by
  obtain ⟨rows,h1,h2,h3,h4⟩:=h
  exact ⟨rows,own_base h1 hb,h2,h3,fun j x hj hx => (h4 j x hj hx).base hb⟩
theorem MapO.keep {base:Nat} {w w':World} {l:List Ex} {n:Nat} {v:Value} (h:MapO base w l n v) {S:Nat → Prop} (k:Keep S w w') (hS:∀ j,S j → j < base):MapO base w' l n v:=by
  obtain ⟨rows,h1,h2,h3,h4⟩:=h
  exact ⟨rows,k.own h1 (fun i hi hs => by have:=hS i hs;have:=(h1.lt i hi).1;omega),h2,h3,fun j x hj hx => (h4 j x hj hx).keep k hS⟩
theorem MapO.rd {base:Nat} {w:World} {l:List Ex} {A:Option Addr} {n c:Nat} (h:MapO base w l n (.slice A n c)) (hn:l.length = n):SlRd rEx 2 w A l:=by
  obtain ⟨rows,h1,h2,h3,h4⟩:=h
  exact ⟨rows,Rd.own h1,by omega,h3,fun j x hx => (h4 j x (by have:=(List.getElem?_eq_some_iff.1 hx).1;omega) hx).rd⟩
set_option maxRecDepth 100000 in
theorem pick_own (c d:Nat) (A B:Option Addr) (l:List Ex) (idx:List Int) (w:World) (h:SlRd rEx 2 w A l) (hl:l.length ≤ 1048576) (hB:Rd w B (nums .i64 idx)) (hi:idx.length ≤ 1048576) :
    Calls Tryz.prog 146 #[.slice A l.length c,.slice B idx.length d] w fun e w' => Below w.heap.size w w' ∧
      (((∀ k,k < idx.length → goodI l.length (nth idx k)) ∧ ∃ A' c',e = .returned (.tuple #[.slice A' idx.length c',.bool true]) ∧ MapO w.heap.size w' (pickL l idx) idx.length (.slice A' idx.length c')) ∨ ((¬ ∀ k,k < idx.length → goodI l.length (nth idx k)) ∧ e = .returned (.tuple #[.slice none 0 0,.bool false]))):=by
  have hm:=mapint_any w.heap.size c d A B l idx (w.alloc (.cells #[.slice A l.length c] 25)) (heap_alloc_new w _) (h.below stays_ex ((Below.refl _ w).alloc (Nat.le_refl _) _)) hl (hB.alloc _) hi
  have hpl:=pickL_len l idx
  unfold PickIs at hm
  obtain ⟨n,hn⟩:∃ n,idx.length = n:=⟨_,rfl⟩
  obtain ⟨N,hN⟩:∃ N,l.length = N:=⟨_,rfl⟩
  rw [hn,hN] at hm ⊢
  rw [hn] at hpl
  have Hm:=Lib.hid hm;have Hpl:=Lib.hid hpl;clear hm hpl hn hN h hB
  go_enter Tryz.func146,Tryz.ntmps146
  go_wp2_with fail
  refine Hm.out.mono ?_
  rintro e w1 ⟨hb,hp⟩
  have hb1:Below w.heap.size w w1:=((Below.refl _ w).alloc (Nat.le_refl _) _).trans (hb.mono (by first | omega | (simp;done) | (simp;omega)))
  have Hb:=Lib.hid hb1;clear hb hb1
  rcases hp with ⟨hg,v,rfl,hM⟩ | ⟨hg,rfl⟩
  · obtain ⟨A',c',rfl⟩:=hM.form
    have Hg:=Lib.hid hg;have HM:=Lib.hid hM;clear hg hM
    go_wp2_with fail
    go_ret2
    exact ⟨Hb.out,.inl ⟨Hg.out,_,_,rfl,HM.out.own.base (by simp)⟩⟩
  · have Hg:=Lib.hid hg;clear hg
    go_wp2_with fail
    go_ret2
    exact ⟨Hb.out,.inr ⟨Hg.out,rfl⟩⟩
end Go.Proofs.YtaccfnffmbndhaaGreat
namespace Go.Proofs.YtaccfnffmbndhaaGreat
open Go.RowKit
abbrev Pl:=Nat × Nat × Int
def plW (k c m:Nat):List Pl:=(List.range m).map fun i => (k,i / c,((i % c:Nat):Int))
def plB (k m:Nat):List Pl:=(List.range m).map fun i => (k,i,-1)
def plK (sz:List Int) (k:Nat):List Pl:=plW k (szN sz k) (szN sz (k + 1) * szN sz k) ++ plB k (szN sz (k + 1))
def plL (sz:List Int) (n:Nat):List Pl:=(List.range n).flatMap (plK sz)
theorem plW_len (k c m:Nat):(plW k c m).length = m:=by simp [plW]
theorem plB_len (k m:Nat):(plB k m).length = m:=by simp [plB]
theorem plL_succ (sz:List Int) (n:Nat):plL sz (n + 1) = plL sz n ++ plK sz n:=by simp [plL,List.range_succ,List.flatMap_append]
theorem plL_len (sz:List Int) (n:Nat):(plL sz n).length = cntN sz n:=by
  induction n with
  | zero => rfl
  | succ n ih =>
    have:=midN_eq sz n
    unfold midN at this
    rw [plL_succ,List.length_append,ih]
    unfold plK
    rw [List.length_append,plW_len,plB_len]
    omega
def plV (l:List Pl):List Value:=l.flatMap fun p => [.int .i64 (p.1:Int),.int .i64 (p.2.1:Int),.int .i64 p.2.2]
theorem plV_append (a b:List Pl):plV (a ++ b) = plV a ++ plV b:=by simp [plV,List.flatMap_append]
theorem plV_one (p:Pl):plV [p] = [.int .i64 (p.1:Int),.int .i64 (p.2.1:Int),.int .i64 p.2.2]:=rfl
theorem plV_at:∀ (l:List Pl) (i:Nat) (p:Pl),l[i]? = some p → (plV l)[i * 3]? = some (.int .i64 (p.1:Int)) ∧ (plV l)[i * 3 + 1]? = some (.int .i64 (p.2.1:Int)) ∧ (plV l)[i * 3 + 2]? = some (.int .i64 p.2.2):=by
  intro l
  induction l with
  | nil => intro i p h;simp at h
  | cons a l ih =>
    intro i p h
    have hv:plV (a :: l) = [.int .i64 (a.1:Int),.int .i64 (a.2.1:Int),.int .i64 a.2.2] ++ plV l:=rfl
    rw [hv]
    cases i with
    | zero =>
      simp at h
      subst h
      exact ⟨rfl,rfl,rfl⟩
    | succ i =>
      have:=ih i p (by simpa using h)
      rw [List.getElem?_append_right (by simp;omega),List.getElem?_append_right (by simp;omega),List.getElem?_append_right (by simp;omega)]
      simp only [List.length_cons,List.length_nil]
      rw [show (i + 1) * 3 - (0 + 1 + 1 + 1) = i * 3 by omega,show (i + 1) * 3 + 1 - (0 + 1 + 1 + 1) = i * 3 + 1 by omega,show (i + 1) * 3 + 2 - (0 + 1 + 1 + 1) = i * 3 + 2 by omega]
      exact this
theorem plW_succ (k c r j:Nat) (hj:j < c):plW k c (r * c + j + 1) = plW k c (r * c + j) ++ [(k,r,(j:Int))]:=by
  unfold plW
  rw [List.range_succ,List.map_append]
  have h1:(r * c + j) / c = r:=by rw [Nat.add_comm,Nat.add_mul_div_right _ _ (by omega),Nat.div_eq_of_lt hj,Nat.zero_add]
  have h2:(r * c + j) % c = j:=by rw [Nat.add_comm,Nat.add_mul_mod_self_right,Nat.mod_eq_of_lt hj]
  rw [List.map_singleton,h1,h2]
theorem plB_succ (k r:Nat):plB k (r + 1) = plB k r ++ [(k,r,-1)]:=by simp [plB,List.range_succ]
def gAt (sz ps:List Int) (q:Int) (x y:List Int) (p:Pl):Int:=
  if 0 ≤ p.2.2 then mulQ (nth (errD sz ps q x y (sz.length - 2 - p.1)) p.2.1) (nth (valL sz ps q x p.1) p.2.2.toNat) q else nth (errD sz ps q x y (sz.length - 2 - p.1)) p.2.1
theorem map_nth (l:List Int) (n:Nat) (h:l.length = n):(List.range n).map (nth l) = l:=(eq_upTo h fun k _ => rfl).symm
theorem block_eq {sz ps:List Int} {q:Int} {x y:List Int} (hx:x.length = szN sz 0) {k:Nat} (hk:k + 2 ≤ sz.length) :
    outerL (szN sz (k + 1)) (szN sz k) (errD sz ps q x y (sz.length - 2 - k)) (valL sz ps q x k) q ++ errD sz ps q x y (sz.length - 2 - k) = (plK sz k).map (gAt sz ps q x y):=by
  unfold plK
  rw [List.map_append]
  congr 1
  · unfold outerL upTo plW
    rw [List.map_map]
    refine List.map_congr_left fun i _ => ?_
    unfold outV gAt
    show _ = if 0 ≤ ((i % szN sz k:Nat):Int) then mulQ (nth (errD sz ps q x y (sz.length - 2 - k)) (i / szN sz k)) (nth (valL sz ps q x k) ((i % szN sz k:Nat):Int).toNat) q else nth (errD sz ps q x y (sz.length - 2 - k)) (i / szN sz k)
    rw [if_pos (Int.natCast_nonneg _),Int.toNat_natCast]
  · unfold plB
    rw [List.map_map]
    have hl:=errD_len (sz:=sz) (ps:=ps) (q:=q) (x:=x) (y:=y) hx (sz.length - 2 - k)
    rw [show sz.length - 1 - (sz.length - 2 - k) = k + 1 by omega] at hl
    have:=map_nth _ _ hl
    conv => lhs;rw [← this]
    refine List.map_congr_left fun i _ => ?_
    unfold gAt
    simp
theorem gradT_eq {sz ps:List Int} {q:Int} {x y:List Int} (hx:x.length = szN sz 0):∀ j,j + 1 ≤ sz.length → gradT sz ps q x y j = (((List.range (sz.length - 1)).drop (sz.length - 1 - j)).flatMap (plK sz)).map (gAt sz ps q x y):=by
  intro j
  induction j with
  | zero => intro _;rw [Nat.sub_zero,List.drop_eq_nil_of_le (by simp)];rfl
  | succ j ih =>
    intro hj
    have hd:(List.range (sz.length - 1)).drop (sz.length - 1 - (j + 1)) = (sz.length - 2 - j) :: (List.range (sz.length - 1)).drop (sz.length - 1 - j):=by
      rw [show sz.length - 1 - (j + 1) = sz.length - 2 - j by omega]
      rw [List.drop_eq_getElem_cons (by simp;omega),List.getElem_range]
      congr 2
      omega
    rw [hd,List.flatMap_cons,List.map_append,← ih (by omega),gradT,← List.append_assoc]
    congr 1
    have:=block_eq (sz:=sz) (ps:=ps) (q:=q) (x:=x) (y:=y) hx (k:=sz.length - 2 - j) (by omega)
    rw [show sz.length - 2 - j + 1 = sz.length - 1 - j by omega,show sz.length - 2 - (sz.length - 2 - j) = j by omega] at this
    exact this
theorem gradL_eq {sz ps:List Int} {q:Int} {x y:List Int} (hx:x.length = szN sz 0) (hl:1 ≤ sz.length):gradL sz ps q x y = (plL sz (sz.length - 1)).map (gAt sz ps q x y):=by
  unfold gradL
  rw [gradT_eq hx _ (by omega),Nat.sub_self,List.drop_zero]
  rfl
theorem gradL_len {sz ps:List Int} {q:Int} {x y:List Int} (hx:x.length = szN sz 0) (hl:1 ≤ sz.length):(gradL sz ps q x y).length = cntN sz (sz.length - 1):=by
  rw [gradL_eq hx hl,List.length_map,plL_len]
theorem plL_mem {sz:List Int} {n:Nat} {p:Pl} (h:p ∈ plL sz n):p.1 < n ∧ p.2.1 < szN sz (p.1 + 1) ∧ (p.2.2 = -1 ∨ (0 ≤ p.2.2 ∧ p.2.2.toNat < szN sz p.1)):=by
  unfold plL at h
  obtain ⟨k,hk,h⟩:=List.mem_flatMap.1 h
  have hk:=List.mem_range.1 hk
  unfold plK at h
  rcases List.mem_append.1 h with h | h
  · unfold plW at h
    obtain ⟨i,hi,rfl⟩:=List.mem_map.1 h
    have hi:=List.mem_range.1 hi
    have hc:0 < szN sz k:=by
      rcases Nat.eq_zero_or_pos (szN sz k) with h0 | h0
      · rw [h0,Nat.mul_zero] at hi;omega
      · exact h0
    exact ⟨hk,Nat.div_lt_of_lt_mul (by rw [Nat.mul_comm];exact hi),.inr ⟨by dsimp only;omega,by dsimp only;rw [Int.toNat_natCast];exact Nat.mod_lt _ hc⟩⟩
  · unfold plB at h
    obtain ⟨i,hi,rfl⟩:=List.mem_map.1 h
    exact ⟨hk,List.mem_range.1 hi,.inl rfl⟩
end Go.Proofs.YtaccfnffmbndhaaGreat
namespace Go.Proofs.YtaccfnffmbndhaaGreat
open Go.RowKit
theorem cnt_pos {i:Inp} (h:GoodSz i.cfg.sizes):1 ≤ cnt i:=by
  unfold cnt
  have h1:=h.1.1
  have:=cntN_mono i.cfg.sizes (show 1 ≤ i.cfg.sizes.length - 1 by omega)
  have h2:cntN i.cfg.sizes 1 = 0 + (szN i.cfg.sizes 0 + 1) * szN i.cfg.sizes 1:=rfl
  have h3:=(h.1.at (k:=1) (by omega)).1
  have h4:1 * 1 ≤ (szN i.cfg.sizes 0 + 1) * szN i.cfg.sizes 1:=Nat.mul_le_mul (by omega) h3
  omega
def gradAcc (i:Inp) (P:List Int) (l:List Ex):List Int:=l.foldl (fun a x => addL a (gradL i.cfg.sizes P i.cfg.shift x.1 x.2)) (List.replicate (cnt i) 0)
theorem gradAcc_snoc (i:Inp) (P:List Int) (l:List Ex) (x:Ex):gradAcc i P (l ++ [x]) = addL (gradAcc i P l) (gradL i.cfg.sizes P i.cfg.shift x.1 x.2):=by simp [gradAcc]
theorem gradAcc_len (i:Inp) (P:List Int) (l:List Ex):(gradAcc i P l).length = cnt i:=by
  have:∀ (l:List Ex) (a:List Int),(l.foldl (fun a x => addL a (gradL i.cfg.sizes P i.cfg.shift x.1 x.2)) a).length = a.length:=by
    intro l
    induction l with
    | nil => intro a;rfl
    | cons x l ih => intro a;rw [List.foldl_cons,ih,addL_len]
  unfold gradAcc
  rw [this,List.length_replicate]
theorem gradAcc_W64 (i:Inp) (P:List Int) (l:List Ex):W64 (gradAcc i P l):=by
  have:∀ (l:List Ex) (a:List Int),W64 a → W64 (l.foldl (fun a x => addL a (gradL i.cfg.sizes P i.cfg.shift x.1 x.2)) a):=by
    intro l
    induction l with
    | nil => intro a h;exact h
    | cons x l ih => intro a _;exact ih _ (upTo_W64 fun _ _ => wrap64_bd _)
  refine this _ _ fun k hk => ?_
  rw [nth_eq _ _ hk];simp
def allGood (i:Inp) (idx:List Int):Prop:=∀ k,k < idx.length → goodI i.data.length (nth idx k)
theorem batch_good {i:Inp} (hg:GoodIn i) (k:Nat):allGood i (batchN i.draws i.data.length i.cfg.batch.toNat k):=fun j hj => by
  have h1:=hg.c.w;have h2:=hg.c.ba;have h3:=hg.b
  have hnb:1 ≤ i.data.length / i.cfg.batch.toNat:=Nat.div_pos (by omega) (by omega)
  rw [batchN_len _ hnb] at hj
  exact batchN_bd _ hnb j hj
end Go.Proofs.YtaccfnffmbndhaaGreat
