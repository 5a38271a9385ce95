/- The reference's check of an input. No condition. -/
import Derived.Test.YtfiojofcafjfeaaGreatJ21
import Derived.Test.YtfiojofcafjfeaaGreatJ35
import Derived.Test.YtfiojofcafjfeaaGreatJ39
set_option linter.unusedSimpArgs false
set_option linter.unusedVariables false
namespace Go.Proofs.YtfiojofcafjfeaaGreat
open Go.RowKit

set_option maxRecDepth 100000 in
set_option maxHeartbeats 4000000 in
theorem rinput_any (A : Option Addr) (c : Nat) (D : Option Addr) (cd : Nat) (T : Option Addr) (ct : Nat) (R : Option Addr) (cr : Nat) (i : Inp) (w : World) (h : InpRd w A c D T ct R i) :
    Calls Tryz.prog 15 #[.agg (inpVals A c D cd T ct R cr i)] w fun e w' => e = .returned (.int .i64 (inCode i)) ∧ Below w.heap.size w w' := by
  have hck := fun w' (q : Below w.heap.size w w') => rcfg_any A c i.cfg w' (h.c.below q)
  have hct := fun (hR : RightSz i.cfg.sizes) w' (q : Below w.heap.size w w') => rcount_any A i.cfg.sizes i.cfg.sizes.length c w' (h.c.hr.below q) hR (by have := hR.1; omega) (Nat.le_refl _)
  have hdc := fun a b w' (q : Below w.heap.size w w') => rdcheck_any a b cd D i.data w' (h.d.below stays_ex q) h.dl
  have hnd := fun (hg : GoodCfg i.cfg) (hb : i.cfg.batch ≤ i.data.length ∧ (i.data.length : Int) ≤ 1048576) w' (q : Below w.heap.size w w') => rneed_any A c i.data.length i.cfg w' (h.c.below q) hg hb
  have fc := @in_c i; have f7 := @in_7 i; have f5 := @in_5 i; have f8 := @in_8 i; have f0 := @in_0 i
  have hgd := @cfg_good i.cfg
  have hsr := h.c.hr
  have hdl := h.dl; have htl := h.tl; have hrl := h.rl
  unfold DChkIs at hdc
  unfold batchB at f7 f5 f8 f0
  unfold shapeB fitB inN outN cnt at f5 f8 f0
  unfold drawsB at f8 f0
  obtain ⟨code, hcode⟩ : ∃ code, inCode i = code := ⟨_, rfl⟩
  rw [hcode] at fc f7 f5 f8 f0 ⊢
  clear hcode h
  obtain ⟨⟨sz, sh, ra, mo, wk, ba, mi, st, bu, ch, wi, ca⟩, data, start, draws⟩ := i
  dsimp only [inpVals, cfgVals] at *
  obtain ⟨L, hL⟩ : ∃ L, sz.length = L := ⟨_, rfl⟩
  obtain ⟨N, hN⟩ : ∃ N, data.length = N := ⟨_, rfl⟩
  obtain ⟨M, hM⟩ : ∃ M, start.length = M := ⟨_, rfl⟩
  obtain ⟨Q, hQ⟩ : ∃ Q, draws.length = Q := ⟨_, rfl⟩
  obtain ⟨cc, hcc⟩ : ∃ cc, cfgCode ⟨sz, sh, ra, mo, wk, ba, mi, st, bu, ch, wi, ca⟩ = cc := ⟨_, rfl⟩
  rw [hL] at hck hct hnd f5 f8 f0 ⊢
  rw [hN] at hdc hnd f7 f5 f8 f0 hdl ⊢
  rw [hM] at f5 f8 f0 htl ⊢
  rw [hQ] at f8 f0 hrl ⊢
  rw [hcc] at hck fc f7 f5 f8 f0 hgd
  obtain ⟨CN, hCN⟩ : ∃ CN, cntN sz (L - 1) = CN := ⟨_, rfl⟩
  rw [hCN] at hct f5 f8 f0
  obtain ⟨ND, hND⟩ : ∃ ND, needN N ba.toNat st.toNat = ND := ⟨_, rfl⟩
  rw [hND] at hnd f8 f0
  have Hck := Lib.hid hck; have Hct := Lib.hid hct; have Hdc := Lib.hid hdc; have Hnd := Lib.hid hnd; have Fc := Lib.hid fc; have F7 := Lib.hid f7; have F5 := Lib.hid f5; have F8 := Lib.hid f8; have F0 := Lib.hid f0; have Hgd := Lib.hid hgd; have Hsr := Lib.hid hsr; have HL := Lib.hid hL; have HCN := Lib.hid hCN
  clear hck hct hdc hnd fc f7 f5 f8 f0 hgd hsr hL hN hM hQ hcc hCN hND
  go_enter Tryz.func15, Tryz.ntmps15
  go_wp2_with fail
  have hz := (Below.heap_alloc (w.alloc (.cells #[.slice A L c, .int .i64 sh, .int .i64 ra, .int .i64 mo, .int .i64 wk, .int .i64 ba, .int .i64 mi, .int .i64 st, .int .i64 bu, .int .i64 ch, .int .i64 wi, .int .i64 ca, .slice D N cd, .slice T M ct, .slice R Q cr] 29)) (.cells #[.slice A L c, .int .i64 sh, .int .i64 ra, .int .i64 mo, .int .i64 wk, .int .i64 ba, .int .i64 mi, .int .i64 st, .int .i64 bu, .int .i64 ch, .int .i64 wi, .int .i64 ca] 24) w.heap.size (by simp)).trans (heap_alloc_new w _)
  have hy := heap_alloc_new (w.alloc (.cells #[.slice A L c, .int .i64 sh, .int .i64 ra, .int .i64 mo, .int .i64 wk, .int .i64 ba, .int .i64 mi, .int .i64 st, .int .i64 bu, .int .i64 ch, .int .i64 wi, .int .i64 ca, .slice D N cd, .slice T M ct, .slice R Q cr] 29)) (.cells #[.slice A L c, .int .i64 sh, .int .i64 ra, .int .i64 mo, .int .i64 wk, .int .i64 ba, .int .i64 mi, .int .i64 st, .int .i64 bu, .int .i64 ch, .int .i64 wi, .int .i64 ca] 24)
  rw [show (w.alloc (.cells #[.slice A L c, .int .i64 sh, .int .i64 ra, .int .i64 mo, .int .i64 wk, .int .i64 ba, .int .i64 mi, .int .i64 st, .int .i64 bu, .int .i64 ch, .int .i64 wi, .int .i64 ca, .slice D N cd, .slice T M ct, .slice R Q cr] 29)).heap.size = w.heap.size + 1 by simp] at hy
  have hB : Below w.heap.size w ((w.alloc (.cells #[.slice A L c, .int .i64 sh, .int .i64 ra, .int .i64 mo, .int .i64 wk, .int .i64 ba, .int .i64 mi, .int .i64 st, .int .i64 bu, .int .i64 ch, .int .i64 wi, .int .i64 ca, .slice D N cd, .slice T M ct, .slice R Q cr] 29)).alloc (.cells #[.slice A L c, .int .i64 sh, .int .i64 ra, .int .i64 mo, .int .i64 wk, .int .i64 ba, .int .i64 mi, .int .i64 st, .int .i64 bu, .int .i64 ch, .int .i64 wi, .int .i64 ca] 24)) := ((Below.refl _ w).alloc (Nat.le_refl _) _).alloc (by simp) _
  obtain ⟨W0, hW0⟩ : ∃ W0, W0 = (w.alloc (.cells #[.slice A L c, .int .i64 sh, .int .i64 ra, .int .i64 mo, .int .i64 wk, .int .i64 ba, .int .i64 mi, .int .i64 st, .int .i64 bu, .int .i64 ch, .int .i64 wi, .int .i64 ca, .slice D N cd, .slice T M ct, .slice R Q cr] 29)).alloc (.cells #[.slice A L c, .int .i64 sh, .int .i64 ra, .int .i64 mo, .int .i64 wk, .int .i64 ba, .int .i64 mi, .int .i64 st, .int .i64 bu, .int .i64 ch, .int .i64 wi, .int .i64 ca] 24) := ⟨_, rfl⟩
  rw [← hW0] at hz hy hB ⊢
  clear hW0
  refine (Hck.out _ hB).mono ?_
  rintro e w1 ⟨rfl, hb1⟩
  have hz1 := (hb1.block _ (lt_of_block hz)).trans hz
  have hy1 := (hb1.block _ (lt_of_block hy)).trans hy
  have HB := Lib.hid (hB.trans (hb1.mono hB.size))
  have z0 := cell_of_row w1 _ 0 _ _ _ hz1
  have z1 := cell_of_row w1 _ 1 _ _ _ hz1
  have z2 := cell_of_row w1 _ 2 _ _ _ hz1
  have z3 := cell_of_row w1 _ 3 _ _ _ hz1
  have z4 := cell_of_row w1 _ 4 _ _ _ hz1
  have z5 := cell_of_row w1 _ 5 _ _ _ hz1
  have z6 := cell_of_row w1 _ 6 _ _ _ hz1
  have z7 := cell_of_row w1 _ 7 _ _ _ hz1
  have z8 := cell_of_row w1 _ 8 _ _ _ hz1
  have z9 := cell_of_row w1 _ 9 _ _ _ hz1
  have z10 := cell_of_row w1 _ 10 _ _ _ hz1
  have z11 := cell_of_row w1 _ 11 _ _ _ hz1
  have z12 := cell_of_row w1 _ 12 _ _ _ hz1
  have z13 := cell_of_row w1 _ 13 _ _ _ hz1
  have z14 := cell_of_row w1 _ 14 _ _ _ hz1
  have zf := fun j => frozen_of_row w1 _ j _ _ hz1
  have y0 := cell_of_row w1 _ 0 _ _ _ hy1
  have y1 := cell_of_row w1 _ 1 _ _ _ hy1
  have y2 := cell_of_row w1 _ 2 _ _ _ hy1
  have y3 := cell_of_row w1 _ 3 _ _ _ hy1
  have y4 := cell_of_row w1 _ 4 _ _ _ hy1
  have y5 := cell_of_row w1 _ 5 _ _ _ hy1
  have y6 := cell_of_row w1 _ 6 _ _ _ hy1
  have y7 := cell_of_row w1 _ 7 _ _ _ hy1
  have y8 := cell_of_row w1 _ 8 _ _ _ hy1
  have y9 := cell_of_row w1 _ 9 _ _ _ hy1
  have y10 := cell_of_row w1 _ 10 _ _ _ hy1
  have y11 := cell_of_row w1 _ 11 _ _ _ hy1
  have yf := fun j => frozen_of_row w1 _ j _ _ hy1
  have lz := lt_of_block hz1; have ly := lt_of_block hy1
  have HZ := Lib.hid hz1; have HY := Lib.hid hy1
  clear hz hy hB hb1 hz1 hy1
  by_cases h3 : cc ≠ 0
  · have hq : (cc != 0) = true := by rw [bne_iff_ne]; exact h3
    have H3 := Lib.hid h3; clear h3
    go_wp2_with fail
    go_ret
    exact ⟨ret_int (Fc.out H3.out).symm, HB.out⟩
  obtain rfl : cc = 0 := by omega
  clear h3
  have hg := Hgd.out.1 rfl
  have g1 := hg.w; have g2 := hg.ba; have g3 := hg.st; have gz := hg.z
  have HG := Lib.hid hg
  dsimp only at g1 g2 g3 gz
  clear hg
  have hl16 := gz.1.1
  rw [HL.out] at hl16
  have s0 := gz.1.at (k := 0) (by have := HL.out; omega)
  have s1 := gz.1.at (k := L - 1) (by have := HL.out; omega)
  obtain ⟨bz, oz, rfl, p0⟩ := Hsr.out.num (show 0 < sz.length by have := HL.out; omega)
  obtain ⟨_, _, e', p1⟩ := Hsr.out.num (show L - 1 < sz.length by have := HL.out; omega)
  injection e' with e'; injection e' with e1 e2 _; subst e1; subst e2
  rw [s0.2.2, Nat.add_zero] at p0
  rw [s1.2.2] at p1
  obtain ⟨n0, hn0⟩ : ∃ n0, szN sz 0 = n0 := ⟨_, rfl⟩
  obtain ⟨n1, hn1⟩ : ∃ n1, szN sz (L - 1) = n1 := ⟨_, rfl⟩
  have f5 := F5.out; have f8 := F8.out; have f0 := F0.out
  rw [hn0, hn1] at f5 f8 f0
  rw [hn0] at p0 s0
  rw [hn1] at p1 s1
  have F5 := Lib.hid f5; have F8 := Lib.hid f8; have F0 := Lib.hid f0; have HGZ := Lib.hid gz
  have hb5 : bz < w.heap.size := lt_of_cell p0
  have P0 := Lib.hid p0; have P1 := Lib.hid p1
  clear f5 f8 f0 gz hn0 hn1 p0 p1 s0 s1
  obtain ⟨bt, rfl⟩ : ∃ bt : Nat, ba = bt := ⟨ba.toNat, by omega⟩
  go_wp2_with fail
  refine (btw_any N bt 1048576 _).mono ?_
  rintro e w' ⟨rfl, rfl⟩
  obtain ⟨b1, hb1⟩ : ∃ b1, btB (N : Int) bt 1048576 = b1 := ⟨_, rfl⟩
  have G0 := Lib.hid (show decide ((bt : Int) ≤ N ∧ (N : Int) ≤ 1048576) = b1 from hb1)
  rw [hb1]
  clear hb1
  rcases bool_ft b1 with rfl | rfl
  · have hn7 := of_decide_eq_false G0.out
    go_wp2_with fail
    go_ret
    exact ⟨ret_int (F7.out trivial (by rw [decide_eq_false_iff_not]; omega)).symm, HB.out⟩
  have hn7 := of_decide_eq_true G0.out
  have G1 := Lib.hid (show decide ((bt : Int) ≤ N ∧ N ≤ 1048576) = true by rw [decide_eq_true_eq]; omega)
  have p0 := (HB.out.cell (p := ⟨bz, oz, none⟩) hb5).trans P0.out
  have p1 := (HB.out.cell (p := ⟨bz, oz + (L - 1), none⟩) hb5).trans P1.out
  have hw1 : IntKind.i64.wrap ((L : Int) - 1) = ((L - 1 : Nat) : Int) := by rw [IntWalk.i64_in _ (by omega)]; omega
  have hLi : ((L - 1 : Nat) : Int) < L := by omega
  have hLn : L - 1 < L := by omega
  have hL0 : 0 < L := by omega
  have hL0i : (0 : Int) < L := by omega
  go_wp2_with fail
  have hSw : (fun w' : World => w'.cell? ⟨w.heap.size, 12, none⟩ = some (.slice D N cd) ∧ w'.cell? ⟨w.heap.size + 1, 0, none⟩ = some (.slice (some ⟨bz, oz, none⟩) L c) ∧ w'.cell? ⟨bz, oz, none⟩ = some (.int .i64 n0) ∧ w'.cell? ⟨bz, oz + (L - 1), none⟩ = some (.int .i64 n1)) w1.drew := ⟨z12, y0, p0, p1⟩
  refine wp_region_held (S := (fun w' : World => w'.cell? ⟨w.heap.size, 12, none⟩ = some (.slice D N cd) ∧ w'.cell? ⟨w.heap.size + 1, 0, none⟩ = some (.slice (some ⟨bz, oz, none⟩) L c) ∧ w'.cell? ⟨bz, oz, none⟩ = some (.int .i64 n0) ∧ w'.cell? ⟨bz, oz + (L - 1), none⟩ = some (.int .i64 n1))) (by kernel_rfl) ?_
  change wpAnyH _ _ _ _ _ _ _ _ w1.drew
  refine wpAnyH_take (i := 0) (v := ?_) rfl (by kernel_rfl) (by kernel_rfl) (by kernel_rfl) (fun _ _ _ h => h) (Or.inl ⟨by rfl, ?_⟩) hSw ?_
  rotate_left
  · intro w9 hS9; (try dsimp only at hS9); obtain ⟨s1, s2, s3, s4⟩ := hS9; go_simp; (try with_reducible rfl)
  simp only [List.getElem_toArray, List.getElem_cons_succ, List.getElem_cons_zero, Act.put, List.setIfInBounds_toArray, List.set_cons_zero, List.set_cons_succ]
  refine wpAnyH_take (i := 1) (v := ?_) rfl (by kernel_rfl) (by kernel_rfl) (by kernel_rfl) (fun _ _ _ h => h) (Or.inl ⟨by rfl, ?_⟩) hSw ?_
  rotate_left
  · intro w9 hS9; (try dsimp only at hS9); obtain ⟨s1, s2, s3, s4⟩ := hS9; go_simp; (try with_reducible rfl)
  simp only [List.getElem_toArray, List.getElem_cons_succ, List.getElem_cons_zero, Act.put, List.setIfInBounds_toArray, List.set_cons_zero, List.set_cons_succ]
  refine wpAnyH_take (i := 2) (v := ?_) rfl (by kernel_rfl) (by kernel_rfl) (by kernel_rfl) (fun _ _ _ h => h) (Or.inl ⟨by rfl, ?_⟩) hSw ?_
  rotate_left
  · intro w9 hS9; (try dsimp only at hS9); obtain ⟨s1, s2, s3, s4⟩ := hS9; go_simp; (try with_reducible rfl)
  simp only [List.getElem_toArray, List.getElem_cons_succ, List.getElem_cons_zero, Act.put, List.setIfInBounds_toArray, List.set_cons_zero, List.set_cons_succ]
  refine wpAnyH_take (i := 3) (v := ?_) rfl (by kernel_rfl) (by kernel_rfl) (by kernel_rfl) (fun _ _ _ h => h) (Or.inl ⟨by rfl, ?_⟩) hSw ?_
  rotate_left
  · intro w9 hS9; (try dsimp only at hS9); obtain ⟨s1, s2, s3, s4⟩ := hS9; go_simp; (try with_reducible rfl)
  simp only [List.getElem_toArray, List.getElem_cons_succ, List.getElem_cons_zero, Act.put, List.setIfInBounds_toArray, List.set_cons_zero, List.set_cons_succ]
  refine wpAnyH_take (i := 4) (v := ?_) rfl (by kernel_rfl) (by kernel_rfl) (by kernel_rfl) (fun _ _ _ h => h) (Or.inl ⟨by rfl, ?_⟩) hSw ?_
  rotate_left
  · intro w9 hS9; (try dsimp only at hS9); obtain ⟨s1, s2, s3, s4⟩ := hS9; go_simp; (try with_reducible rfl)
  simp only [List.getElem_toArray, List.getElem_cons_succ, List.getElem_cons_zero, Act.put, List.setIfInBounds_toArray, List.set_cons_zero, List.set_cons_succ]
  refine wpAnyH_take (i := 5) (v := ?_) rfl (by kernel_rfl) (by kernel_rfl) (by kernel_rfl) (fun _ _ _ h => h) (Or.inl ⟨by rfl, ?_⟩) hSw ?_
  rotate_left
  · intro w9 hS9; (try dsimp only at hS9); obtain ⟨s1, s2, s3, s4⟩ := hS9; go_simp; (try with_reducible rfl)
  simp only [List.getElem_toArray, List.getElem_cons_succ, List.getElem_cons_zero, Act.put, List.setIfInBounds_toArray, List.set_cons_zero, List.set_cons_succ]
  refine wpAnyH_take (i := 6) (v := ?_) rfl (by kernel_rfl) (by kernel_rfl) (by kernel_rfl) (fun _ _ _ h => h) (Or.inl ⟨by rfl, ?_⟩) hSw ?_
  rotate_left
  · intro w9 hS9; (try dsimp only at hS9); obtain ⟨s1, s2, s3, s4⟩ := hS9; go_simp; (try with_reducible rfl)
  simp only [List.getElem_toArray, List.getElem_cons_succ, List.getElem_cons_zero, Act.put, List.setIfInBounds_toArray, List.set_cons_zero, List.set_cons_succ]
  refine wpAnyH_take (i := 7) (v := ?_) rfl (by kernel_rfl) (by kernel_rfl) (by kernel_rfl) (fun _ _ _ h => h) (Or.inl ⟨by rfl, ?_⟩) hSw ?_
  rotate_left
  · intro w9 hS9; (try dsimp only at hS9); obtain ⟨s1, s2, s3, s4⟩ := hS9; go_simp; (try with_reducible rfl)
  simp only [List.getElem_toArray, List.getElem_cons_succ, List.getElem_cons_zero, Act.put, List.setIfInBounds_toArray, List.set_cons_zero, List.set_cons_succ]
  refine wpAnyH_take (i := 8) (v := ?_) rfl (by kernel_rfl) (by kernel_rfl) (by kernel_rfl) (fun _ _ _ h => h) (Or.inl ⟨by rfl, ?_⟩) hSw ?_
  rotate_left
  · intro w9 hS9; (try dsimp only at hS9); obtain ⟨s1, s2, s3, s4⟩ := hS9; go_simp; (try with_reducible rfl)
  simp only [List.getElem_toArray, List.getElem_cons_succ, List.getElem_cons_zero, Act.put, List.setIfInBounds_toArray, List.set_cons_zero, List.set_cons_succ]
  refine wpAnyH_take (i := 9) (v := ?_) rfl (by kernel_rfl) (by kernel_rfl) (by kernel_rfl) (fun _ _ _ h => h) (Or.inl ⟨by rfl, ?_⟩) hSw ?_
  rotate_left
  · intro w9 hS9; (try dsimp only at hS9); obtain ⟨s1, s2, s3, s4⟩ := hS9; go_simp; (try with_reducible rfl)
  simp only [List.getElem_toArray, List.getElem_cons_succ, List.getElem_cons_zero, Act.put, List.setIfInBounds_toArray, List.set_cons_zero, List.set_cons_succ]
  refine wpAnyH_take (i := 10) (v := ?_) rfl (by kernel_rfl) (by kernel_rfl) (by kernel_rfl) (fun _ _ _ h => h) (Or.inl ⟨by rfl, ?_⟩) hSw ?_
  rotate_left
  · intro w9 hS9; (try dsimp only at hS9); obtain ⟨s1, s2, s3, s4⟩ := hS9; go_simp; (try with_reducible rfl)
  simp only [List.getElem_toArray, List.getElem_cons_succ, List.getElem_cons_zero, Act.put, List.setIfInBounds_toArray, List.set_cons_zero, List.set_cons_succ]
  refine wpAnyH_take (i := 11) (v := ?_) rfl (by kernel_rfl) (by kernel_rfl) (by kernel_rfl) (fun _ _ _ h => h) (Or.inl ⟨by rfl, ?_⟩) hSw ?_
  rotate_left
  · intro w9 hS9; (try dsimp only at hS9); obtain ⟨s1, s2, s3, s4⟩ := hS9; go_simp; (try with_reducible rfl)
  simp only [List.getElem_toArray, List.getElem_cons_succ, List.getElem_cons_zero, Act.put, List.setIfInBounds_toArray, List.set_cons_zero, List.set_cons_succ]
  refine wpAnyH_take (i := 12) (v := ?_) rfl (by kernel_rfl) (by kernel_rfl) (by kernel_rfl) (fun _ _ _ h => h) (Or.inl ⟨by rfl, ?_⟩) hSw ?_
  rotate_left
  · intro w9 hS9; (try dsimp only at hS9); obtain ⟨s1, s2, s3, s4⟩ := hS9; go_simp; (try with_reducible rfl)
  simp only [List.getElem_toArray, List.getElem_cons_succ, List.getElem_cons_zero, Act.put, List.setIfInBounds_toArray, List.set_cons_zero, List.set_cons_succ]
  refine wpAnyH_take (i := 13) (v := ?_) rfl (by kernel_rfl) (by kernel_rfl) (by kernel_rfl) (fun _ _ _ h => h) (Or.inl ⟨by rfl, ?_⟩) hSw ?_
  rotate_left
  · intro w9 hS9; (try dsimp only at hS9); obtain ⟨s1, s2, s3, s4⟩ := hS9; go_simp; (try with_reducible rfl)
  simp only [List.getElem_toArray, List.getElem_cons_succ, List.getElem_cons_zero, Act.put, List.setIfInBounds_toArray, List.set_cons_zero, List.set_cons_succ]
  refine wpAnyH_ready (rs := [14]) (by kernel_rfl) (by simp) ?_
  refine AllReadyH.cons rfl (fun K hK => ?_) AllReadyH.nil
  simp only [List.getElem_toArray, List.getElem_cons_succ, List.getElem_cons_zero]
  go_simp
  refine (Hdc.out n0 n1 _ HB.out.drew).mono ?_
  rintro e w3 ⟨hb3, d, hd⟩
  have hS3 := And.intro (cell_below hb3 hSw.1) (And.intro (cell_below hb3 hSw.2.1) (And.intro (cell_below hb3 hSw.2.2.1) (cell_below hb3 hSw.2.2.2)))
  have hb3' : Below w1.heap.size w1 w3 := (Below.refl w1.heap.size w1).drew.trans hb3
  have hz3 := (hb3'.block _ lz).trans HZ.out
  have hy3 := (hb3'.block _ ly).trans HY.out
  have HB3 := Lib.hid (HB.out.trans (hb3'.mono HB.out.size))
  have HZ3 := Lib.hid hz3; have HY3 := Lib.hid hy3
  obtain ⟨fit, rfl, hfit⟩ : ∃ fit, e = .returned (.tuple #[.int .i64 d, .bool fit]) ∧ decide (∀ x ∈ data, fitEx n0 n1 x) = fit := by
    rcases hd with ⟨ha, rfl⟩ | ⟨ha, rfl⟩
    · exact ⟨true, rfl, decide_eq_true ha⟩
    · exact ⟨false, rfl, decide_eq_false ha⟩
  have Hfit := Lib.hid hfit
  clear hb3 hb3' hz3 hy3 hd hfit hSw
  dsimp only
  refine hK.out _ _ hS3 (fun hSw => ?_)
  clear hK K hS3
  refine wpAnyH_take (i := 15) (v := ?_) rfl (by kernel_rfl) (by kernel_rfl) (by kernel_rfl) (fun _ _ _ h => h) (Or.inl ⟨by rfl, ?_⟩) hSw ?_
  rotate_left
  · intro w9 hS9; (try dsimp only at hS9); obtain ⟨s1, s2, s3, s4⟩ := hS9; go_simp; (try with_reducible rfl)
  simp only [List.getElem_toArray, List.getElem_cons_succ, List.getElem_cons_zero, Act.put, List.setIfInBounds_toArray, List.set_cons_zero, List.set_cons_succ]
  refine wpAnyH_take (i := 16) (v := ?_) rfl (by kernel_rfl) (by kernel_rfl) (by kernel_rfl) (fun _ _ _ h => h) (Or.inl ⟨by rfl, ?_⟩) hSw ?_
  rotate_left
  · intro w9 hS9; (try dsimp only at hS9); obtain ⟨s1, s2, s3, s4⟩ := hS9; go_simp; (try with_reducible rfl)
  simp only [List.getElem_toArray, List.getElem_cons_succ, List.getElem_cons_zero, Act.put, List.setIfInBounds_toArray, List.set_cons_zero, List.set_cons_succ]
  refine wpAnyH_take (i := 17) (v := ?_) rfl (by kernel_rfl) (by kernel_rfl) (by kernel_rfl) (fun _ _ _ h => h) (Or.inl ⟨by rfl, ?_⟩) hSw ?_
  rotate_left
  · intro w9 hS9; (try dsimp only at hS9); obtain ⟨s1, s2, s3, s4⟩ := hS9; go_simp; (try with_reducible rfl)
  simp only [List.getElem_toArray, List.getElem_cons_succ, List.getElem_cons_zero, Act.put, List.setIfInBounds_toArray, List.set_cons_zero, List.set_cons_succ]
  refine wpAnyH_take (i := 18) (v := ?_) rfl (by kernel_rfl) (by kernel_rfl) (by kernel_rfl) (fun _ _ _ h => h) (Or.inl ⟨by rfl, ?_⟩) hSw ?_
  rotate_left
  · intro w9 hS9; (try dsimp only at hS9); obtain ⟨s1, s2, s3, s4⟩ := hS9; go_simp; (try with_reducible rfl)
  simp only [List.getElem_toArray, List.getElem_cons_succ, List.getElem_cons_zero, Act.put, List.setIfInBounds_toArray, List.set_cons_zero, List.set_cons_succ]
  refine wpAnyH_take (i := 19) (v := ?_) rfl (by kernel_rfl) (by kernel_rfl) (by kernel_rfl) (fun _ _ _ h => h) (Or.inl ⟨by rfl, ?_⟩) hSw ?_
  rotate_left
  · intro w9 hS9; (try dsimp only at hS9); obtain ⟨s1, s2, s3, s4⟩ := hS9; go_simp; (try with_reducible rfl)
  simp only [List.getElem_toArray, List.getElem_cons_succ, List.getElem_cons_zero, Act.put, List.setIfInBounds_toArray, List.set_cons_zero, List.set_cons_succ]
  refine wpAnyH_done (by kernel_rfl) ?_ _
  clear hSw z0 z1 z2 z3 z4 z5 z6 z7 z8 z9 z10 z11 z12 z13 z14 zf y0 y1 y2 y3 y4 y5 y6 y7 y8 y9 y10 y11 yf lz ly hw1 p0 p1
  have hz3 := HZ3.out; have hy3 := HY3.out
  have z0 := cell_of_row w3 _ 0 _ _ _ hz3
  have z1 := cell_of_row w3 _ 1 _ _ _ hz3
  have z2 := cell_of_row w3 _ 2 _ _ _ hz3
  have z3 := cell_of_row w3 _ 3 _ _ _ hz3
  have z4 := cell_of_row w3 _ 4 _ _ _ hz3
  have z5 := cell_of_row w3 _ 5 _ _ _ hz3
  have z6 := cell_of_row w3 _ 6 _ _ _ hz3
  have z7 := cell_of_row w3 _ 7 _ _ _ hz3
  have z8 := cell_of_row w3 _ 8 _ _ _ hz3
  have z9 := cell_of_row w3 _ 9 _ _ _ hz3
  have z10 := cell_of_row w3 _ 10 _ _ _ hz3
  have z11 := cell_of_row w3 _ 11 _ _ _ hz3
  have z12 := cell_of_row w3 _ 12 _ _ _ hz3
  have z13 := cell_of_row w3 _ 13 _ _ _ hz3
  have z14 := cell_of_row w3 _ 14 _ _ _ hz3
  have zf := fun j => frozen_of_row w3 _ j _ _ hz3
  have y0 := cell_of_row w3 _ 0 _ _ _ hy3
  have y1 := cell_of_row w3 _ 1 _ _ _ hy3
  have y2 := cell_of_row w3 _ 2 _ _ _ hy3
  have y3 := cell_of_row w3 _ 3 _ _ _ hy3
  have y4 := cell_of_row w3 _ 4 _ _ _ hy3
  have y5 := cell_of_row w3 _ 5 _ _ _ hy3
  have y6 := cell_of_row w3 _ 6 _ _ _ hy3
  have y7 := cell_of_row w3 _ 7 _ _ _ hy3
  have y8 := cell_of_row w3 _ 8 _ _ _ hy3
  have y9 := cell_of_row w3 _ 9 _ _ _ hy3
  have y10 := cell_of_row w3 _ 10 _ _ _ hy3
  have y11 := cell_of_row w3 _ 11 _ _ _ hy3
  have yf := fun j => frozen_of_row w3 _ j _ _ hy3
  have lz := lt_of_block hz3; have ly := lt_of_block hy3
  clear hz3 hy3
  rcases bool_ft fit with rfl | rfl
  · go_wp2_with fail
    go_quiet (fail)
    go_wp2_with fail
    go_ret
    exact ⟨ret_int (F5.out trivial G1.out (by rw [Hfit.out]; rfl)).symm, below_drewN HB3.out _⟩
  have hcnt := fun w' (q : Below w3.heap.size w3 w') => Hct.out HGZ.out.1 w' (HB3.out.trans (q.mono HB3.out.size))
  have Hcnt := Lib.hid hcnt; clear hcnt
  by_cases h5 : M ≠ CN
  · have hq : ((M : Int) != (CN : Int)) = true := by rw [bne_iff_ne]; omega
    have H5 := Lib.hid h5; clear h5
    go_wp2_with fail
    go_quiet ((go_at_call 33; refine Calls.quiet_of (Hcnt.out _ ?_); (focus (repeat' (first | (with_reducible exact Below.refl _ _) | (with_reducible assumption) | (with_reducible refine Below.setCell ?_ ?_ _) | (with_reducible refine Below.alloc ?_ ?_ _) | (with_reducible refine below_drewN ?_ _) | (with_reducible refine Below.drew ?_) | (with_reducible exact Nat.le_refl _) | omega | (simp; done) | (simp; omega))))))
    go_wp2_with fail
    go_ret
    exact ⟨ret_int (F5.out trivial G1.out (by rw [Hfit.out, decide_eq_false H5.out]; rfl)).symm, below_drewN HB3.out _⟩
  have hq : ((M : Int) != (CN : Int)) = false := by rw [bne_eq_false_iff_eq]; omega
  have G2 := Lib.hid (show (decide (∀ x ∈ data, fitEx n0 n1 x) && decide (M = CN)) = true by rw [Hfit.out, decide_eq_true (show M = CN by omega)]; rfl)
  clear h5
  go_wp2_with fail
  go_quiet ((go_at_call 33; refine Calls.quiet_of (Hcnt.out _ ?_); (focus (repeat' (first | (with_reducible exact Below.refl _ _) | (with_reducible assumption) | (with_reducible refine Below.setCell ?_ ?_ _) | (with_reducible refine Below.alloc ?_ ?_ _) | (with_reducible refine below_drewN ?_ _) | (with_reducible refine Below.drew ?_) | (with_reducible exact Nat.le_refl _) | omega | (simp; done) | (simp; omega))))))
  go_wp2_with fail
  obtain ⟨V, hV⟩ : ∃ V, V = w3.drewN nq := ⟨_, rfl⟩
  have hBV : Below w.heap.size w V := by rw [hV]; exact below_drewN HB3.out _
  have hzV : V.heap[w.heap.size]? = some (.cells #[.slice (some ⟨bz, oz, none⟩) L c, .int .i64 sh, .int .i64 ra, .int .i64 mo, .int .i64 wk, .int .i64 bt, .int .i64 mi, .int .i64 st, .int .i64 bu, .int .i64 ch, .int .i64 wi, .int .i64 ca, .slice D N cd, .slice T M ct, .slice R Q cr] 29 (0, 0)) := by rw [hV]; exact HZ3.out
  have hyV : V.heap[w.heap.size + 1]? = some (.cells #[.slice (some ⟨bz, oz, none⟩) L c, .int .i64 sh, .int .i64 ra, .int .i64 mo, .int .i64 wk, .int .i64 bt, .int .i64 mi, .int .i64 st, .int .i64 bu, .int .i64 ch, .int .i64 wi, .int .i64 ca] 24 (0, 0)) := by rw [hV]; exact HY3.out
  clear z0 z1 z2 z3 z4 z5 z6 z7 z8 z9 z10 z11 z12 z13 z14 zf y0 y1 y2 y3 y4 y5 y6 y7 y8 y9 y10 y11 yf
  rw [← hV]
  clear hV
  have z0 := cell_of_row V _ 0 _ _ _ hzV
  have z1 := cell_of_row V _ 1 _ _ _ hzV
  have z2 := cell_of_row V _ 2 _ _ _ hzV
  have z3 := cell_of_row V _ 3 _ _ _ hzV
  have z4 := cell_of_row V _ 4 _ _ _ hzV
  have z5 := cell_of_row V _ 5 _ _ _ hzV
  have z6 := cell_of_row V _ 6 _ _ _ hzV
  have z7 := cell_of_row V _ 7 _ _ _ hzV
  have z8 := cell_of_row V _ 8 _ _ _ hzV
  have z9 := cell_of_row V _ 9 _ _ _ hzV
  have z10 := cell_of_row V _ 10 _ _ _ hzV
  have z11 := cell_of_row V _ 11 _ _ _ hzV
  have z12 := cell_of_row V _ 12 _ _ _ hzV
  have z13 := cell_of_row V _ 13 _ _ _ hzV
  have z14 := cell_of_row V _ 14 _ _ _ hzV
  have zf := fun j => frozen_of_row V _ j _ _ hzV
  have y0 := cell_of_row V _ 0 _ _ _ hyV
  have y1 := cell_of_row V _ 1 _ _ _ hyV
  have y2 := cell_of_row V _ 2 _ _ _ hyV
  have y3 := cell_of_row V _ 3 _ _ _ hyV
  have y4 := cell_of_row V _ 4 _ _ _ hyV
  have y5 := cell_of_row V _ 5 _ _ _ hyV
  have y6 := cell_of_row V _ 6 _ _ _ hyV
  have y7 := cell_of_row V _ 7 _ _ _ hyV
  have y8 := cell_of_row V _ 8 _ _ _ hyV
  have y9 := cell_of_row V _ 9 _ _ _ hyV
  have y10 := cell_of_row V _ 10 _ _ _ hyV
  have y11 := cell_of_row V _ 11 _ _ _ hyV
  have yf := fun j => frozen_of_row V _ j _ _ hyV
  have HBV := Lib.hid hBV; clear hBV hzV hyV
  have hnd := Hnd.out HG.out (by omega) V.drew HBV.out.drew
  have Hnd2 := Lib.hid hnd; clear hnd
  have hSw : (fun w' : World => w'.cell? ⟨w.heap.size, 14, none⟩ = some (.slice R Q cr) ∧ w'.cell? ⟨w.heap.size, 12, none⟩ = some (.slice D N cd) ∧ w'.cell? ⟨w.heap.size + 1, 0, none⟩ = some (.slice (some ⟨bz, oz, none⟩) L c) ∧ w'.cell? ⟨w.heap.size + 1, 1, none⟩ = some (.int .i64 sh) ∧ w'.cell? ⟨w.heap.size + 1, 2, none⟩ = some (.int .i64 ra) ∧ w'.cell? ⟨w.heap.size + 1, 3, none⟩ = some (.int .i64 mo) ∧ w'.cell? ⟨w.heap.size + 1, 4, none⟩ = some (.int .i64 wk) ∧ w'.cell? ⟨w.heap.size + 1, 5, none⟩ = some (.int .i64 bt) ∧ w'.cell? ⟨w.heap.size + 1, 6, none⟩ = some (.int .i64 mi) ∧ w'.cell? ⟨w.heap.size + 1, 7, none⟩ = some (.int .i64 st) ∧ w'.cell? ⟨w.heap.size + 1, 8, none⟩ = some (.int .i64 bu) ∧ w'.cell? ⟨w.heap.size + 1, 9, none⟩ = some (.int .i64 ch) ∧ w'.cell? ⟨w.heap.size + 1, 10, none⟩ = some (.int .i64 wi) ∧ w'.cell? ⟨w.heap.size + 1, 11, none⟩ = some (.int .i64 ca)) V.drew := ⟨z14, z12, y0, y1, y2, y3, y4, y5, y6, y7, y8, y9, y10, y11⟩
  refine wp_region_held (S := (fun w' : World => w'.cell? ⟨w.heap.size, 14, none⟩ = some (.slice R Q cr) ∧ w'.cell? ⟨w.heap.size, 12, none⟩ = some (.slice D N cd) ∧ w'.cell? ⟨w.heap.size + 1, 0, none⟩ = some (.slice (some ⟨bz, oz, none⟩) L c) ∧ w'.cell? ⟨w.heap.size + 1, 1, none⟩ = some (.int .i64 sh) ∧ w'.cell? ⟨w.heap.size + 1, 2, none⟩ = some (.int .i64 ra) ∧ w'.cell? ⟨w.heap.size + 1, 3, none⟩ = some (.int .i64 mo) ∧ w'.cell? ⟨w.heap.size + 1, 4, none⟩ = some (.int .i64 wk) ∧ w'.cell? ⟨w.heap.size + 1, 5, none⟩ = some (.int .i64 bt) ∧ w'.cell? ⟨w.heap.size + 1, 6, none⟩ = some (.int .i64 mi) ∧ w'.cell? ⟨w.heap.size + 1, 7, none⟩ = some (.int .i64 st) ∧ w'.cell? ⟨w.heap.size + 1, 8, none⟩ = some (.int .i64 bu) ∧ w'.cell? ⟨w.heap.size + 1, 9, none⟩ = some (.int .i64 ch) ∧ w'.cell? ⟨w.heap.size + 1, 10, none⟩ = some (.int .i64 wi) ∧ w'.cell? ⟨w.heap.size + 1, 11, none⟩ = some (.int .i64 ca))) (by kernel_rfl) ?_
  change wpAnyH _ _ _ _ _ _ _ _ V.drew
  refine wpAnyH_take (i := 0) (v := ?_) rfl (by kernel_rfl) (by kernel_rfl) (by kernel_rfl) (fun _ _ _ h => h) (Or.inl ⟨by rfl, ?_⟩) hSw ?_
  rotate_left
  · intro w9 hS9; (try dsimp only at hS9); obtain ⟨s1, s2, s3, s4, s5, s6, s7, s8, s9, s10, s11, s12, s13, s14⟩ := hS9; go_simp; (try with_reducible rfl)
  simp only [List.getElem_toArray, List.getElem_cons_succ, List.getElem_cons_zero, Act.put, List.setIfInBounds_toArray, List.set_cons_zero, List.set_cons_succ]
  refine wpAnyH_take (i := 1) (v := ?_) rfl (by kernel_rfl) (by kernel_rfl) (by kernel_rfl) (fun _ _ _ h => h) (Or.inl ⟨by rfl, ?_⟩) hSw ?_
  rotate_left
  · intro w9 hS9; (try dsimp only at hS9); obtain ⟨s1, s2, s3, s4, s5, s6, s7, s8, s9, s10, s11, s12, s13, s14⟩ := hS9; go_simp; (try with_reducible rfl)
  simp only [List.getElem_toArray, List.getElem_cons_succ, List.getElem_cons_zero, Act.put, List.setIfInBounds_toArray, List.set_cons_zero, List.set_cons_succ]
  refine wpAnyH_take (i := 2) (v := ?_) rfl (by kernel_rfl) (by kernel_rfl) (by kernel_rfl) (fun _ _ _ h => h) (Or.inl ⟨by rfl, ?_⟩) hSw ?_
  rotate_left
  · intro w9 hS9; (try dsimp only at hS9); obtain ⟨s1, s2, s3, s4, s5, s6, s7, s8, s9, s10, s11, s12, s13, s14⟩ := hS9; go_simp; (try with_reducible rfl)
  simp only [List.getElem_toArray, List.getElem_cons_succ, List.getElem_cons_zero, Act.put, List.setIfInBounds_toArray, List.set_cons_zero, List.set_cons_succ]
  refine wpAnyH_take (i := 3) (v := ?_) rfl (by kernel_rfl) (by kernel_rfl) (by kernel_rfl) (fun _ _ _ h => h) (Or.inl ⟨by rfl, ?_⟩) hSw ?_
  rotate_left
  · intro w9 hS9; (try dsimp only at hS9); obtain ⟨s1, s2, s3, s4, s5, s6, s7, s8, s9, s10, s11, s12, s13, s14⟩ := hS9; go_simp; (try with_reducible rfl)
  simp only [List.getElem_toArray, List.getElem_cons_succ, List.getElem_cons_zero, Act.put, List.setIfInBounds_toArray, List.set_cons_zero, List.set_cons_succ]
  refine wpAnyH_take (i := 4) (v := ?_) rfl (by kernel_rfl) (by kernel_rfl) (by kernel_rfl) (fun _ _ _ h => h) (Or.inl ⟨by rfl, ?_⟩) hSw ?_
  rotate_left
  · intro w9 hS9; (try dsimp only at hS9); obtain ⟨s1, s2, s3, s4, s5, s6, s7, s8, s9, s10, s11, s12, s13, s14⟩ := hS9; go_simp; (try with_reducible rfl)
  simp only [List.getElem_toArray, List.getElem_cons_succ, List.getElem_cons_zero, Act.put, List.setIfInBounds_toArray, List.set_cons_zero, List.set_cons_succ]
  refine wpAnyH_take (i := 5) (v := ?_) rfl (by kernel_rfl) (by kernel_rfl) (by kernel_rfl) (fun _ _ _ h => h) (Or.inl ⟨by rfl, ?_⟩) hSw ?_
  rotate_left
  · intro w9 hS9; (try dsimp only at hS9); obtain ⟨s1, s2, s3, s4, s5, s6, s7, s8, s9, s10, s11, s12, s13, s14⟩ := hS9; go_simp; (try with_reducible rfl)
  simp only [List.getElem_toArray, List.getElem_cons_succ, List.getElem_cons_zero, Act.put, List.setIfInBounds_toArray, List.set_cons_zero, List.set_cons_succ]
  refine wpAnyH_take (i := 6) (v := ?_) rfl (by kernel_rfl) (by kernel_rfl) (by kernel_rfl) (fun _ _ _ h => h) (Or.inl ⟨by rfl, ?_⟩) hSw ?_
  rotate_left
  · intro w9 hS9; (try dsimp only at hS9); obtain ⟨s1, s2, s3, s4, s5, s6, s7, s8, s9, s10, s11, s12, s13, s14⟩ := hS9; go_simp; (try with_reducible rfl)
  simp only [List.getElem_toArray, List.getElem_cons_succ, List.getElem_cons_zero, Act.put, List.setIfInBounds_toArray, List.set_cons_zero, List.set_cons_succ]
  refine wpAnyH_ready (rs := [7]) (by kernel_rfl) (by simp) ?_
  refine AllReadyH.cons rfl (fun K hK => ?_) AllReadyH.nil
  simp only [List.getElem_toArray, List.getElem_cons_succ, List.getElem_cons_zero]
  go_simp
  refine Hnd2.out.mono ?_
  rintro e w4 ⟨rfl, hb4⟩
  have HB4 := Lib.hid (HBV.out.trans ((Below.refl V.heap.size V).drew.trans hb4 |>.mono HBV.out.size))
  have hS4 := And.intro (cell_below hb4 hSw.1) (And.intro (cell_below hb4 hSw.2.1) (And.intro (cell_below hb4 hSw.2.2.1) (And.intro (cell_below hb4 hSw.2.2.2.1) (And.intro (cell_below hb4 hSw.2.2.2.2.1) (And.intro (cell_below hb4 hSw.2.2.2.2.2.1) (And.intro (cell_below hb4 hSw.2.2.2.2.2.2.1) (And.intro (cell_below hb4 hSw.2.2.2.2.2.2.2.1) (And.intro (cell_below hb4 hSw.2.2.2.2.2.2.2.2.1) (And.intro (cell_below hb4 hSw.2.2.2.2.2.2.2.2.2.1) (And.intro (cell_below hb4 hSw.2.2.2.2.2.2.2.2.2.2.1) (And.intro (cell_below hb4 hSw.2.2.2.2.2.2.2.2.2.2.2.1) (And.intro (cell_below hb4 hSw.2.2.2.2.2.2.2.2.2.2.2.2.1) (cell_below hb4 hSw.2.2.2.2.2.2.2.2.2.2.2.2.2)))))))))))))
  clear hb4 hSw
  dsimp only
  refine hK.out _ _ hS4 (fun hSw => ?_)
  clear hK K hS4
  refine wpAnyH_take (i := 8) (v := ?_) rfl (by kernel_rfl) (by kernel_rfl) (by kernel_rfl) (fun _ _ _ h => h) (Or.inl ⟨by rfl, ?_⟩) hSw ?_
  rotate_left
  · intro w9 hS9; (try dsimp only at hS9); obtain ⟨s1, s2, s3, s4, s5, s6, s7, s8, s9, s10, s11, s12, s13, s14⟩ := hS9; go_simp; (try with_reducible rfl)
  simp only [List.getElem_toArray, List.getElem_cons_succ, List.getElem_cons_zero, Act.put, List.setIfInBounds_toArray, List.set_cons_zero, List.set_cons_succ]
  refine wpAnyH_done (by kernel_rfl) ?_ _
  clear hSw z0 z1 z2 z3 z4 z5 z6 z7 z8 z9 z10 z11 z12 z13 z14 zf y0 y1 y2 y3 y4 y5 y6 y7 y8 y9 y10 y11 yf
  by_cases h8 : ND ≤ Q
  · have hq9 : ¬ ((Q : Int) < ND) := by omega
    have hqd : decide ((Q : Int) < ND) = false := by simp; omega
    have hqe : decide (Q < ND) = false := by simp; omega
    have G8 := Lib.hid (decide_eq_true h8)
    go_wp2_with fail
    go_ret
    exact ⟨ret_int (F0.out trivial G1.out G2.out G8.out).symm, HB4.out⟩
  · have hq9 : (Q : Int) < ND := by omega
    have hqd : decide ((Q : Int) < ND) = true := by simp; omega
    have hqe : decide (Q < ND) = true := by simp; omega
    have G8 := Lib.hid (decide_eq_false h8)
    go_wp2_with fail
    go_ret
    exact ⟨ret_int (F8.out trivial G1.out G2.out G8.out).symm, HB4.out⟩
end Go.Proofs.YtfiojofcafjfeaaGreat
