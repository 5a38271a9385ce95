/- serial.New where the input is right. Picked examples lie in rows of the call's own. No condition. -/
import Derived.Test.YtfiojofcafjfeaaGreatJ28
import Derived.Test.YtfiojofcafjfeaaGreatJ14
set_option linter.unusedSimpArgs false
set_option linter.unusedVariables false
namespace Go.Proofs.YtfiojofcafjfeaaGreat
open Go.RowKit

/-- A run that is new: all that it holds lies from B on. -/
def NewT (B : Nat) (w : World) (b : Nat) (i : Inp) : Prop := ∃ V F E ce S Ap cp Am cm,
  w.heap[b]? = some (.cells #[.pointer (some ⟨F, 0, none⟩), .slice E i.data.length ce, .pointer (some ⟨S, 0, none⟩), .int .i64 i.cfg.rate, .int .i64 i.cfg.mom, .int .i64 i.cfg.shift, .slice Ap (cnt i) cp, .slice Am (cnt i) cm, .int .i64 (0 : Nat)] 109 (0, 0)) ∧
  ShapeAt 138 (topW B V) F i.cfg.sizes ∧ SlRd rEx 2 (topW B V) E i.data ∧ SampAt (topW B V) S i.data.length i.cfg.batch.toNat i.cfg.steps.toNat i.draws ∧ V.heap.size = b ∧ Below V.heap.size V w ∧ B ≤ b ∧
  i.start.length = cnt i ∧ W64 i.start ∧ W64 (List.replicate (cnt i) 0) ∧ (∀ a, Ap = some a → a.block ≠ b) ∧ (∀ a, Am = some a → a.block ≠ b) ∧ w.ownsRow B 2 1 (.slice Ap (cnt i) cp) (cnt i) (nums .i64 i.start) ∧ w.ownsRow B 2 1 (.slice Am (cnt i) cm) (cnt i) (nums .i64 (List.replicate (cnt i) 0))
theorem NewT.run {B b : Nat} {w w' : World} {i : Inp} (h : NewT B w b i) (hk : Keep (fun j => j < B) w w') : RunAt w' b i i.start (List.replicate (cnt i) 0) 0 := by
  obtain ⟨V, F, E, ce, S, Ap, cp, Am, cm, h0, h1, h2, h3, h4, h5, h6, h7, h8, h9, h10, h11, h12, h13⟩ := h
  have hb := lt_of_block h0
  have hs := hk.size
  obtain ⟨U, hU⟩ : ∃ U : World, U = { w' with heap := w'.heap.extract 0 b } := ⟨_, rfl⟩
  have u1 : U.heap.size = b := by rw [hU]; simp; omega
  have u2 : ∀ k, k < b → w'.heap[k]? = U.heap[k]? := fun k hk => by rw [hU]; simp [Array.getElem?_extract]; omega
  have u3 : Agr B V U := fun k hB hl => by
    rw [← u2 k (by omega), hk.block k (by omega) (by omega), h5.block k hl]
  have o1 := hk.own h12 fun j hj => by have := (h12.lt j hj).1; omega
  have o2 := hk.own h13 fun j hj => by have := (h13.lt j hj).1; omega
  exact ⟨U, F, E, ce, S, Ap, cp, Am, cm, (hk.block b hb (by omega)).trans h0, top_shape h1 u3, top_sl tops_ex h2 u3, top_samp h3 u3, by omega, ⟨by rw [hU], by rw [hU], by rw [hU], by omega, fun k hk => u2 k (by omega)⟩, Rd.own o1, Rd.own o2, h7, by simp, h8, h9, h10, h11, own_base o1 (Nat.zero_le _), own_base o2 (Nat.zero_le _)⟩
set_option maxRecDepth 100000 in
set_option maxHeartbeats 4000000 in
theorem sernew_goodT (A : Option Addr) (c : Nat) (D : Option Addr) (cd : Nat) (T : Option Addr) (ct : Nat) (R : Option Addr) (cr : Nat) (i : Inp) (w : World) (h : InpRd w A c D T ct R i) (hgood : GoodIn i) :
    Calls Tryz.prog 16 #[.agg (inpVals A c D cd T ct R cr i)] w fun e w' => ∃ b, e = .returned (.tuple #[.pointer (some ⟨b, 0, none⟩), .int .i64 0]) ∧ NewT w.heap.size w' b i ∧ w.heap.size ≤ b ∧ Below w.heap.size w w' := by
  have hin := fun w' (q : Below w.heap.size w w') => input_any A c D cd T ct R cr i w' (h.below q)
  rw [in_good.2 hgood] at hin
  have hsn := fun w' (q : Below w.heap.size w w') => snew_codeT A i.cfg.sizes c w' (h.c.hr.below q) h.c.hc h.c.hm
  have hcn := hgood.c.z.bound (k := i.cfg.sizes.length - 1) (by have := hgood.c.z.1.1; omega)
  have hcnp := cnt_pos hgood.c.z
  have hsl := hgood.s
  have g1 := hgood.c.w; have g2 := hgood.c.ba; have g3 := hgood.c.st; have gb := hgood.b; have gd := hgood.d; have gz := hgood.c.z
  unfold needN at gd
  have hsp := fun w' (q : Below w.heap.size w w') => sampler_newT R i.draws cr i.data.length i.cfg.batch.toNat i.cfg.steps.toNat w' (h.r.below q) h.rl h.ru (by omega) (by omega) gb.2 (by omega) gd
  have hdc := fun w' (q : Below w.heap.size w w') => dclone_anyT D i.data cd w' (h.d.below stays_ex q) h.dl
  have hst := fun w' (q : Below w.heap.size w w') => start_any T (cnt i) ct i.start w' (h.t.hr.below q) hsl (by unfold cnt; exact hcn)
  have hw1 := h.t.hw
  have hrep : W64 (List.replicate (cnt i) 0) := fun k hk => by
    rw [nth_eq _ _ hk]; simp
  unfold NewT
  clear h hgood hcn
  obtain ⟨CN, hCN⟩ : ∃ CN, cnt i = CN := ⟨_, rfl⟩
  rw [hCN] at hst hsl hcnp hrep
  simp only [hCN]
  obtain ⟨⟨sz, sh, ra, mo, wk, ba, mi, st, bu, ch, wi, ca⟩, data, start, draws⟩ := i
  dsimp only [inpVals] at *
  obtain ⟨bt, rfl⟩ : ∃ bt : Nat, ba = bt := ⟨ba.toNat, by omega⟩
  obtain ⟨sn, rfl⟩ : ∃ sn : Nat, st = sn := ⟨st.toNat, by omega⟩
  rw [Int.toNat_natCast, Int.toNat_natCast] at *
  obtain ⟨L, hL⟩ : ∃ L, sz.length = L := ⟨_, rfl⟩
  obtain ⟨N, hN⟩ : ∃ N, data.length = N := ⟨_, rfl⟩
  obtain ⟨M, hM⟩ : ∃ M, start.length = M := ⟨_, rfl⟩
  obtain ⟨Q, hQ⟩ : ∃ Q, draws.length = Q := ⟨_, rfl⟩
  rw [hM] at hsl
  subst hsl
  rw [hL] at hin hsn ⊢
  rw [hN] at hin hsp hdc ⊢
  rw [hM] at hin ⊢
  rw [hQ] at hin hsp ⊢
  have Hin := Lib.hid hin; have Hsn := Lib.hid hsn; have Hsp := Lib.hid hsp; have Hdc := Lib.hid hdc; have Hst := Lib.hid hst; have HGZ := Lib.hid gz; have HM := Lib.hid hM; have HW := Lib.hid hw1; have HRep := Lib.hid hrep
  clear hin hsn hsp hdc hst hL hN hM hQ g1 g2 g3 gb gd gz hCN hw1 hrep
  go_enter Tryz.func16, Tryz.ntmps16
  go_wp2_with fail
  have hz := heap_alloc_new w (.cells #[.slice A L c, .int .i64 sh, .int .i64 ra, .int .i64 mo, .int .i64 wk, .int .i64 bt, .int .i64 mi, .int .i64 sn, .int .i64 bu, .int .i64 ch, .int .i64 wi, .int .i64 ca, .slice D N cd, .slice T M ct, .slice R Q cr] 29)
  have hB : Below w.heap.size w (w.alloc (.cells #[.slice A L c, .int .i64 sh, .int .i64 ra, .int .i64 mo, .int .i64 wk, .int .i64 bt, .int .i64 mi, .int .i64 sn, .int .i64 bu, .int .i64 ch, .int .i64 wi, .int .i64 ca, .slice D N cd, .slice T M ct, .slice R Q cr] 29)) := (Below.refl _ w).alloc (Nat.le_refl _) _
  refine (Hin.out _ hB).mono ?_
  rintro e w1 ⟨rfl, hb1⟩
  have hz1 := (hb1.block _ (lt_of_block hz)).trans hz
  have HB := Lib.hid (hB.trans (hb1.mono hB.size))
  have z0 := cell_of_row w1 _ 0 _ _ _ hz1
  have z1 := cell_of_row w1 _ 1 _ _ _ hz1
  have z2 := cell_of_row w1 _ 2 _ _ _ hz1
  have z3 := cell_of_row w1 _ 3 _ _ _ hz1
  have z4 := cell_of_row w1 _ 4 _ _ _ hz1
  have z5 := cell_of_row w1 _ 5 _ _ _ hz1
  have z6 := cell_of_row w1 _ 6 _ _ _ hz1
  have z7 := cell_of_row w1 _ 7 _ _ _ hz1
  have z8 := cell_of_row w1 _ 8 _ _ _ hz1
  have z9 := cell_of_row w1 _ 9 _ _ _ hz1
  have z10 := cell_of_row w1 _ 10 _ _ _ hz1
  have z11 := cell_of_row w1 _ 11 _ _ _ hz1
  have z12 := cell_of_row w1 _ 12 _ _ _ hz1
  have z13 := cell_of_row w1 _ 13 _ _ _ hz1
  have z14 := cell_of_row w1 _ 14 _ _ _ hz1
  have zf := fun j => frozen_of_row w1 _ j _ _ hz1
  have lz := lt_of_block hz1
  have HZ := Lib.hid hz1
  clear hz hB hb1 hz1
  go_wp2_with fail
  have hB2 := HB.out.alloc HB.out.size (.cells #[.slice A L c, .int .i64 sh, .int .i64 ra, .int .i64 mo, .int .i64 wk, .int .i64 bt, .int .i64 mi, .int .i64 sn, .int .i64 bu, .int .i64 ch, .int .i64 wi, .int .i64 ca] 24)
  have hz2 := (Below.heap_alloc w1 (.cells #[.slice A L c, .int .i64 sh, .int .i64 ra, .int .i64 mo, .int .i64 wk, .int .i64 bt, .int .i64 mi, .int .i64 sn, .int .i64 bu, .int .i64 ch, .int .i64 wi, .int .i64 ca] 24) _ (lt_of_block HZ.out)).trans HZ.out
  have hy2 := heap_alloc_new w1 (.cells #[.slice A L c, .int .i64 sh, .int .i64 ra, .int .i64 mo, .int .i64 wk, .int .i64 bt, .int .i64 mi, .int .i64 sn, .int .i64 bu, .int .i64 ch, .int .i64 wi, .int .i64 ca] 24)
  refine (Hsn.out _ hB2).mono ?_
  rintro e w3 ⟨hb3, hs⟩
  obtain ⟨F, rfl, hF⟩ : ∃ S, e = .returned (.tuple #[.pointer (some ⟨S, 0, none⟩), .int .i64 0]) ∧ ShapeAt 138 (topW w.heap.size w3) S sz := by
    rcases hs with ⟨_, S, he, hS, _⟩ | ⟨hng, _⟩
    · exact ⟨S, he, top_shape hS (agr_top hB2.size)⟩
    · exact absurd HGZ.out hng
  have hz3 := (hb3.block _ (lt_of_block hz2)).trans hz2
  have hy3 := (hb3.block _ (lt_of_block hy2)).trans hy2
  have hB3 := hB2.trans (hb3.mono hB2.size)
  clear z0 z1 z2 z3 z4 z5 z6 z7 z8 z9 z10 z11 z12 z13 z14 zf lz hs
  have z0 := cell_of_row w3 _ 0 _ _ _ hz3
  have z1 := cell_of_row w3 _ 1 _ _ _ hz3
  have z2 := cell_of_row w3 _ 2 _ _ _ hz3
  have z3 := cell_of_row w3 _ 3 _ _ _ hz3
  have z4 := cell_of_row w3 _ 4 _ _ _ hz3
  have z5 := cell_of_row w3 _ 5 _ _ _ hz3
  have z6 := cell_of_row w3 _ 6 _ _ _ hz3
  have z7 := cell_of_row w3 _ 7 _ _ _ hz3
  have z8 := cell_of_row w3 _ 8 _ _ _ hz3
  have z9 := cell_of_row w3 _ 9 _ _ _ hz3
  have z10 := cell_of_row w3 _ 10 _ _ _ hz3
  have z11 := cell_of_row w3 _ 11 _ _ _ hz3
  have z12 := cell_of_row w3 _ 12 _ _ _ hz3
  have z13 := cell_of_row w3 _ 13 _ _ _ hz3
  have z14 := cell_of_row w3 _ 14 _ _ _ hz3
  have zf := fun j => frozen_of_row w3 _ j _ _ hz3
  have y0 := cell_of_row w3 _ 0 _ _ _ hy3
  have y1 := cell_of_row w3 _ 1 _ _ _ hy3
  have y2 := cell_of_row w3 _ 2 _ _ _ hy3
  have y3 := cell_of_row w3 _ 3 _ _ _ hy3
  have y4 := cell_of_row w3 _ 4 _ _ _ hy3
  have y5 := cell_of_row w3 _ 5 _ _ _ hy3
  have y6 := cell_of_row w3 _ 6 _ _ _ hy3
  have y7 := cell_of_row w3 _ 7 _ _ _ hy3
  have y8 := cell_of_row w3 _ 8 _ _ _ hy3
  have y9 := cell_of_row w3 _ 9 _ _ _ hy3
  have y10 := cell_of_row w3 _ 10 _ _ _ hy3
  have y11 := cell_of_row w3 _ 11 _ _ _ hy3
  have yf := fun j => frozen_of_row w3 _ j _ _ hy3
  have lz := lt_of_block hz3; have ly := lt_of_block hy3
  have HZ3 := Lib.hid hz3; have HY3 := Lib.hid hy3; have HB3 := Lib.hid hB3; have HF := Lib.hid hF
  clear hz2 hy2 hB2 hb3 hz3 hy3 hB3 hF
  go_wp2_with fail
  refine (Hsp.out _ HB3.out).mono ?_
  rintro e w4 ⟨S, rfl, hS, _, hb4⟩
  replace hS := top_samp hS (agr_top HB3.out.size)
  have hz4 := (hb4.block _ lz).trans HZ3.out
  have hy4 := (hb4.block _ ly).trans HY3.out
  have hB4 := HB3.out.trans (hb4.mono HB3.out.size)
  have hF4 := HF.out.below (top_below hb4)
  clear z0 z1 z2 z3 z4 z5 z6 z7 z8 z9 z10 z11 z12 z13 z14 zf y0 y1 y2 y3 y4 y5 y6 y7 y8 y9 y10 y11 yf lz ly
  have z0 := cell_of_row w4 _ 0 _ _ _ hz4
  have z1 := cell_of_row w4 _ 1 _ _ _ hz4
  have z2 := cell_of_row w4 _ 2 _ _ _ hz4
  have z3 := cell_of_row w4 _ 3 _ _ _ hz4
  have z4 := cell_of_row w4 _ 4 _ _ _ hz4
  have z5 := cell_of_row w4 _ 5 _ _ _ hz4
  have z6 := cell_of_row w4 _ 6 _ _ _ hz4
  have z7 := cell_of_row w4 _ 7 _ _ _ hz4
  have z8 := cell_of_row w4 _ 8 _ _ _ hz4
  have z9 := cell_of_row w4 _ 9 _ _ _ hz4
  have z10 := cell_of_row w4 _ 10 _ _ _ hz4
  have z11 := cell_of_row w4 _ 11 _ _ _ hz4
  have z12 := cell_of_row w4 _ 12 _ _ _ hz4
  have z13 := cell_of_row w4 _ 13 _ _ _ hz4
  have z14 := cell_of_row w4 _ 14 _ _ _ hz4
  have zf := fun j => frozen_of_row w4 _ j _ _ hz4
  have y0 := cell_of_row w4 _ 0 _ _ _ hy4
  have y1 := cell_of_row w4 _ 1 _ _ _ hy4
  have y2 := cell_of_row w4 _ 2 _ _ _ hy4
  have y3 := cell_of_row w4 _ 3 _ _ _ hy4
  have y4 := cell_of_row w4 _ 4 _ _ _ hy4
  have y5 := cell_of_row w4 _ 5 _ _ _ hy4
  have y6 := cell_of_row w4 _ 6 _ _ _ hy4
  have y7 := cell_of_row w4 _ 7 _ _ _ hy4
  have y8 := cell_of_row w4 _ 8 _ _ _ hy4
  have y9 := cell_of_row w4 _ 9 _ _ _ hy4
  have y10 := cell_of_row w4 _ 10 _ _ _ hy4
  have y11 := cell_of_row w4 _ 11 _ _ _ hy4
  have yf := fun j => frozen_of_row w4 _ j _ _ hy4
  have lz := lt_of_block hz4; have ly := lt_of_block hy4
  have HZ4 := Lib.hid hz4; have HB4 := Lib.hid hB4; have HF4 := Lib.hid hF4; have HS := Lib.hid hS
  clear hz4 hy4 hB4 hF4 hS hb4
  go_wp2_with fail
  have hx5 := heap_alloc_new w4 (.cells #[.int .i64 ra, .int .i64 mo, .int .i64 sh] 103)
  have hz5 := (Below.heap_alloc w4 (.cells #[.int .i64 ra, .int .i64 mo, .int .i64 sh] 103) _ lz).trans HZ4.out
  have hb5 := (Below.refl _ w4).alloc (Nat.le_refl _) (.cells #[.int .i64 ra, .int .i64 mo, .int .i64 sh] 103)
  obtain ⟨W5, hW5⟩ : ∃ W5, W5 = w4.alloc (.cells #[.int .i64 ra, .int .i64 mo, .int .i64 sh] 103) := ⟨_, rfl⟩
  rw [← hW5] at hx5 hz5 hb5 ⊢
  clear hW5
  have hB5 := HB4.out.trans (hb5.mono HB4.out.size)
  have hF5 := HF4.out.below (top_below hb5)
  have hS5 := HS.out.below (top_below hb5)
  clear z0 z1 z2 z3 z4 z5 z6 z7 z8 z9 z10 z11 z12 z13 z14 zf y0 y1 y2 y3 y4 y5 y6 y7 y8 y9 y10 y11 yf lz ly
  have z0 := cell_of_row W5 _ 0 _ _ _ hz5
  have z1 := cell_of_row W5 _ 1 _ _ _ hz5
  have z2 := cell_of_row W5 _ 2 _ _ _ hz5
  have z3 := cell_of_row W5 _ 3 _ _ _ hz5
  have z4 := cell_of_row W5 _ 4 _ _ _ hz5
  have z5 := cell_of_row W5 _ 5 _ _ _ hz5
  have z6 := cell_of_row W5 _ 6 _ _ _ hz5
  have z7 := cell_of_row W5 _ 7 _ _ _ hz5
  have z8 := cell_of_row W5 _ 8 _ _ _ hz5
  have z9 := cell_of_row W5 _ 9 _ _ _ hz5
  have z10 := cell_of_row W5 _ 10 _ _ _ hz5
  have z11 := cell_of_row W5 _ 11 _ _ _ hz5
  have z12 := cell_of_row W5 _ 12 _ _ _ hz5
  have z13 := cell_of_row W5 _ 13 _ _ _ hz5
  have z14 := cell_of_row W5 _ 14 _ _ _ hz5
  have zf := fun j => frozen_of_row W5 _ j _ _ hz5
  have x0 := cell_of_row W5 _ 0 _ _ _ hx5
  have x1 := cell_of_row W5 _ 1 _ _ _ hx5
  have x2 := cell_of_row W5 _ 2 _ _ _ hx5
  have xf := fun j => frozen_of_row W5 _ j _ _ hx5
  have HB5 := Lib.hid hB5; have HF5 := Lib.hid hF5; have HS5 := Lib.hid hS5
  clear hx5 hz5 hb5 hB5 hF5 hS5
  have hSw : (fun w' : World => w'.cell? ⟨w.heap.size, 12, none⟩ = some (.slice D N cd) ∧ w'.cell? ⟨w.heap.size, 13, none⟩ = some (.slice T M ct) ∧ w'.cell? ⟨w4.heap.size, 0, none⟩ = some (.int .i64 ra) ∧ w'.cell? ⟨w4.heap.size, 1, none⟩ = some (.int .i64 mo) ∧ w'.cell? ⟨w4.heap.size, 2, none⟩ = some (.int .i64 sh)) W5.drew := ⟨z12, z13, x0, x1, x2⟩
  refine wp_region_held (S := (fun w' : World => w'.cell? ⟨w.heap.size, 12, none⟩ = some (.slice D N cd) ∧ w'.cell? ⟨w.heap.size, 13, none⟩ = some (.slice T M ct) ∧ w'.cell? ⟨w4.heap.size, 0, none⟩ = some (.int .i64 ra) ∧ w'.cell? ⟨w4.heap.size, 1, none⟩ = some (.int .i64 mo) ∧ w'.cell? ⟨w4.heap.size, 2, none⟩ = some (.int .i64 sh))) (by kernel_rfl) ?_
  change wpAnyH _ _ _ _ _ _ _ _ W5.drew
  refine wpAnyH_take (i := 0) (v := ?_) rfl (by kernel_rfl) (by kernel_rfl) (by kernel_rfl) (fun _ _ _ h => h) (Or.inl ⟨by rfl, ?_⟩) hSw ?_
  rotate_left
  · intro w9 hS9; (try dsimp only at hS9); obtain ⟨s1, s2, s3, s4, s5⟩ := hS9; go_simp; (try with_reducible rfl)
  simp only [List.getElem_toArray, List.getElem_cons_succ, List.getElem_cons_zero, Act.put, List.setIfInBounds_toArray, List.set_cons_zero, List.set_cons_succ]
  refine wpAnyH_take (i := 1) (v := ?_) rfl (by kernel_rfl) (by kernel_rfl) (by kernel_rfl) (fun _ _ _ h => h) (Or.inl ⟨by rfl, ?_⟩) hSw ?_
  rotate_left
  · intro w9 hS9; (try dsimp only at hS9); obtain ⟨s1, s2, s3, s4, s5⟩ := hS9; go_simp; (try with_reducible rfl)
  simp only [List.getElem_toArray, List.getElem_cons_succ, List.getElem_cons_zero, Act.put, List.setIfInBounds_toArray, List.set_cons_zero, List.set_cons_succ]
  refine wpAnyH_take (i := 2) (v := ?_) rfl (by kernel_rfl) (by kernel_rfl) (by kernel_rfl) (fun _ _ _ h => h) (Or.inl ⟨by rfl, ?_⟩) hSw ?_
  rotate_left
  · intro w9 hS9; (try dsimp only at hS9); obtain ⟨s1, s2, s3, s4, s5⟩ := hS9; go_simp; (try with_reducible rfl)
  simp only [List.getElem_toArray, List.getElem_cons_succ, List.getElem_cons_zero, Act.put, List.setIfInBounds_toArray, List.set_cons_zero, List.set_cons_succ]
  refine wpAnyH_take (i := 4) (v := ?_) rfl (by kernel_rfl) (by kernel_rfl) (by kernel_rfl) (fun _ _ _ h => h) (Or.inl ⟨by rfl, ?_⟩) hSw ?_
  rotate_left
  · intro w9 hS9; (try dsimp only at hS9); obtain ⟨s1, s2, s3, s4, s5⟩ := hS9; go_simp; (try with_reducible rfl)
  simp only [List.getElem_toArray, List.getElem_cons_succ, List.getElem_cons_zero, Act.put, List.setIfInBounds_toArray, List.set_cons_zero, List.set_cons_succ]
  refine wpAnyH_take (i := 5) (v := ?_) rfl (by kernel_rfl) (by kernel_rfl) (by kernel_rfl) (fun _ _ _ h => h) (Or.inl ⟨by rfl, ?_⟩) hSw ?_
  rotate_left
  · intro w9 hS9; (try dsimp only at hS9); obtain ⟨s1, s2, s3, s4, s5⟩ := hS9; go_simp; (try with_reducible rfl)
  simp only [List.getElem_toArray, List.getElem_cons_succ, List.getElem_cons_zero, Act.put, List.setIfInBounds_toArray, List.set_cons_zero, List.set_cons_succ]
  refine wpAnyH_take (i := 7) (v := ?_) rfl (by kernel_rfl) (by kernel_rfl) (by kernel_rfl) (fun _ _ _ h => h) (Or.inl ⟨by rfl, ?_⟩) hSw ?_
  rotate_left
  · intro w9 hS9; (try dsimp only at hS9); obtain ⟨s1, s2, s3, s4, s5⟩ := hS9; go_simp; (try with_reducible rfl)
  simp only [List.getElem_toArray, List.getElem_cons_succ, List.getElem_cons_zero, Act.put, List.setIfInBounds_toArray, List.set_cons_zero, List.set_cons_succ]
  refine wpAnyH_take (i := 8) (v := ?_) rfl (by kernel_rfl) (by kernel_rfl) (by kernel_rfl) (fun _ _ _ h => h) (Or.inl ⟨by rfl, ?_⟩) hSw ?_
  rotate_left
  · intro w9 hS9; (try dsimp only at hS9); obtain ⟨s1, s2, s3, s4, s5⟩ := hS9; go_simp; (try with_reducible rfl)
  simp only [List.getElem_toArray, List.getElem_cons_succ, List.getElem_cons_zero, Act.put, List.setIfInBounds_toArray, List.set_cons_zero, List.set_cons_succ]
  refine wpAnyH_ready (rs := [3]) (by kernel_rfl) (by simp) ?_
  refine AllReadyH.cons rfl (fun K hK => ?_) AllReadyH.nil
  simp only [List.getElem_toArray, List.getElem_cons_succ, List.getElem_cons_zero]
  go_simp
  refine (Hdc.out _ HB5.out.drew).mono ?_
  rintro e w6 ⟨E, ce, rfl, hE, hb6⟩
  have hS6 := And.intro (cell_below hb6 hSw.1) (And.intro (cell_below hb6 hSw.2.1) (And.intro (cell_below hb6 hSw.2.2.1) (And.intro (cell_below hb6 hSw.2.2.2.1) (cell_below hb6 hSw.2.2.2.2))))
  have hb6' : Below W5.heap.size W5 w6 := (Below.refl W5.heap.size W5).drew.trans hb6
  have HB6 := Lib.hid (HB5.out.trans (hb6'.mono HB5.out.size)); have HF6 := Lib.hid (HF5.out.below (top_below hb6')); have HS6 := Lib.hid (HS5.out.below (top_below hb6')); have HE := Lib.hid (top_sl tops_ex hE (agr_top (B := w.heap.size) HB5.out.size))
  clear hb6 hb6' hE hSw
  dsimp only
  refine hK.out _ _ hS6 (fun hSw => ?_)
  clear hK K hS6
  refine wpAnyH_take (i := 6) (v := ?_) rfl (by kernel_rfl) (by kernel_rfl) (by kernel_rfl) (fun _ _ _ h => h) (Or.inl ⟨by rfl, ?_⟩) hSw ?_
  rotate_left
  · intro w9 hS9; (try dsimp only at hS9); obtain ⟨s1, s2, s3, s4, s5⟩ := hS9; go_simp; (try with_reducible rfl)
  simp only [List.getElem_toArray, List.getElem_cons_succ, List.getElem_cons_zero, Act.put, List.setIfInBounds_toArray, List.set_cons_zero, List.set_cons_succ]
  refine wpAnyH_ready (rs := [9]) (by kernel_rfl) (by simp) ?_
  refine AllReadyH.cons rfl (fun K hK => ?_) AllReadyH.nil
  simp only [List.getElem_toArray, List.getElem_cons_succ, List.getElem_cons_zero]
  go_simp
  refine (Hst.out _ HB6.out).mono ?_
  rintro e w7 ⟨Ap, cp, Am, cm, rfl, hc1, hc2, hp, hm, hb7⟩
  have hS7 := And.intro (cell_below hb7 hSw.1) (And.intro (cell_below hb7 hSw.2.1) (And.intro (cell_below hb7 hSw.2.2.1) (And.intro (cell_below hb7 hSw.2.2.2.1) (cell_below hb7 hSw.2.2.2.2))))
  have hpo := hp; have hmo := hm
  replace hp := Rd.own hp; replace hm := Rd.own hm
  have HPo := Lib.hid (own_base (base' := w.heap.size) hpo HB6.out.size); have HMo := Lib.hid (own_base (base' := w.heap.size) hmo HB6.out.size)
  clear hpo hmo
  have HB7 := Lib.hid (HB6.out.trans (hb7.mono HB6.out.size)); have HF7 := Lib.hid (HF6.out.below (top_below hb7)); have HS7 := Lib.hid (HS6.out.below (top_below hb7)); have hE7 : SlRd rEx 2 (topW w.heap.size w7) E data := HE.out.below stays_ex (top_below hb7); have HE7 := Lib.hid hE7; have HP := Lib.hid hp; have HMm := Lib.hid hm
  clear hb7 hp hm hSw hc1 hc2 hE7
  dsimp only
  refine hK.out _ _ hS7 (fun hSw => ?_)
  clear hK K hS7
  refine wpAnyH_take (i := 10) (v := ?_) rfl (by kernel_rfl) (by kernel_rfl) (by kernel_rfl) (fun _ _ _ h => h) (Or.inl ⟨by rfl, ?_⟩) hSw ?_
  rotate_left
  · intro w9 hS9; (try dsimp only at hS9); obtain ⟨s1, s2, s3, s4, s5⟩ := hS9; go_simp; (try with_reducible rfl)
  simp only [List.getElem_toArray, List.getElem_cons_succ, List.getElem_cons_zero, Act.put, List.setIfInBounds_toArray, List.set_cons_zero, List.set_cons_succ]
  refine wpAnyH_ready (rs := [11]) (by kernel_rfl) (by simp) ?_
  refine AllReadyH.cons rfl (fun K hK => ?_) AllReadyH.nil
  simp only [List.getElem_toArray, List.getElem_cons_succ, List.getElem_cons_zero]
  go_simp
  refine hK.out _ _ ⟨cell_alloc hSw.1 _, cell_alloc hSw.2.1 _, cell_alloc hSw.2.2.1 _, cell_alloc hSw.2.2.2.1 _, cell_alloc hSw.2.2.2.2 _⟩ (fun hSw => ?_)
  clear hK K
  refine wpAnyH_take (i := 12) (v := ?_) rfl (by kernel_rfl) (by kernel_rfl) (by kernel_rfl) (fun _ _ _ h => h) (Or.inl ⟨by rfl, ?_⟩) hSw ?_
  rotate_left
  · intro w9 hS9; (try dsimp only at hS9); obtain ⟨s1, s2, s3, s4, s5⟩ := hS9; go_simp; (try with_reducible rfl)
  simp only [List.getElem_toArray, List.getElem_cons_succ, List.getElem_cons_zero, Act.put, List.setIfInBounds_toArray, List.set_cons_zero, List.set_cons_succ]
  refine wpAnyH_take (i := 13) (v := ?_) rfl (by kernel_rfl) (by kernel_rfl) (by kernel_rfl) (fun _ _ _ h => h) (Or.inl ⟨by rfl, ?_⟩) hSw ?_
  rotate_left
  · intro w9 hS9; (try dsimp only at hS9); obtain ⟨s1, s2, s3, s4, s5⟩ := hS9; go_simp; (try with_reducible rfl)
  simp only [List.getElem_toArray, List.getElem_cons_succ, List.getElem_cons_zero, Act.put, List.setIfInBounds_toArray, List.set_cons_zero, List.set_cons_succ]
  refine wpAnyH_done (by kernel_rfl) ?_ _
  clear hSw z0 z1 z2 z3 z4 z5 z6 z7 z8 z9 z10 z11 z12 z13 z14 zf x0 x1 x2 xf
  go_wp2_with fail
  go_ret2
  exact ⟨_, rfl, ⟨w7, F, E, ce, S, Ap, cp, Am, cm, heap_alloc_new w7 _, HF7.out, HE7.out, HS7.out, rfl, (Below.refl _ w7).alloc (Nat.le_refl _) _, HB7.out.size, trivial, HW.out, HRep.out,
    fun a ha e => by have := rd_lt HP.out (by rw [HM.out]; omega) a ha; omega, fun a ha e => by have := rd_lt HMm.out (by rw [List.length_replicate]; omega) a ha; omega, HPo.out.alloc _, HMo.out.alloc _⟩, HB7.out.size, HB7.out.alloc HB7.out.size _⟩
theorem sernew_good (A : Option Addr) (c : Nat) (D : Option Addr) (cd : Nat) (T : Option Addr) (ct : Nat) (R : Option Addr) (cr : Nat) (i : Inp) (w : World) (h : InpRd w A c D T ct R i) (hgood : GoodIn i) :
    Calls Tryz.prog 16 #[.agg (inpVals A c D cd T ct R cr i)] w fun e w' => ∃ b, e = .returned (.tuple #[.pointer (some ⟨b, 0, none⟩), .int .i64 0]) ∧ RunAt w' b i i.start (List.replicate (cnt i) 0) 0 ∧ w.heap.size ≤ b ∧ Below w.heap.size w w' := by
  refine (sernew_goodT A c D cd T ct R cr i w h hgood).mono ?_
  rintro e w' ⟨b, he, hn, hb, hk⟩
  exact ⟨b, he, hn.run (Keep.refl _ _), hb, hk⟩
end Go.Proofs.YtfiojofcafjfeaaGreat
namespace Go.Proofs.YtfiojofcafjfeaaGreat
open Go.RowKit

theorem ExOwn.keep {w w' : World} {base : Nat} {cs : List Value} {e : Ex} (h : ExOwn w base cs e) {S : Nat → Prop} (k : Keep S w w') (hS : ∀ j, S j → j < base) : ExOwn w' base cs e := by
  obtain ⟨u, v, rfl, h1, h2, h3⟩ := h
  exact ⟨u, v, rfl, k.own h1 (fun i hi hs => by have := hS i hs; have := (h1.lt i hi).1; omega), k.own h2 (fun i hi hs => by have := hS i hs; have := (h2.lt i hi).1; omega), h3⟩
/-- A list of examples in rows behind base. -/
def MapO (base : Nat) (w : World) (l : List Ex) (n : Nat) (v : Value) : Prop := ∃ rows, w.ownsRow base 64 2 v n (List.flatten rows) ∧ rows.length = n ∧ (∀ r ∈ rows, r.length = 2) ∧ (∀ j x, j < n → l[j]? = some x → ExOwn w base (rowOf rows j) x)
theorem MapI.own {w wr : World} {l : List Ex} {k : Nat} {v : Value} (h : MapI w wr l k v) : MapO w.heap.size wr l k v := by
  obtain ⟨rows, h1, h2, h3, h4, _⟩ := h
  exact ⟨rows, h1, h2, h3, h4⟩
theorem MapO.base {base base' : Nat} {w : World} {l : List Ex} {n : Nat} {v : Value} (h : MapO base w l n v) (hb : base' ≤ base) : MapO base' w l n v := by
  obtain ⟨rows, h1, h2, h3, h4⟩ := h
  exact ⟨rows, own_base h1 hb, h2, h3, fun j x hj hx => (h4 j x hj hx).base hb⟩
theorem MapO.keep {base : Nat} {w w' : World} {l : List Ex} {n : Nat} {v : Value} (h : MapO base w l n v) {S : Nat → Prop} (k : Keep S w w') (hS : ∀ j, S j → j < base) : MapO base w' l n v := by
  obtain ⟨rows, h1, h2, h3, h4⟩ := h
  exact ⟨rows, k.own h1 (fun i hi hs => by have := hS i hs; have := (h1.lt i hi).1; omega), h2, h3, fun j x hj hx => (h4 j x hj hx).keep k hS⟩
theorem MapO.below {base : Nat} {w w' : World} {l : List Ex} {n : Nat} {v : Value} (h : MapO base w l n v) (hb : Below w.heap.size w w') : MapO base w' l n v := h.keep (S := fun _ => False) (Keep.below hb) (fun _ h => h.elim)
theorem MapO.rd {base : Nat} {w : World} {l : List Ex} {A : Option Addr} {n c : Nat} (h : MapO base w l n (.slice A n c)) (hn : l.length = n) : SlRd rEx 2 w A l := by
  obtain ⟨rows, h1, h2, h3, h4⟩ := h
  exact ⟨rows, Rd.own h1, by omega, h3, fun j x hx => (h4 j x (by have := (List.getElem?_eq_some_iff.1 hx).1; omega) hx).rd⟩

set_option maxRecDepth 100000 in
theorem pick_own (c d : Nat) (A B : Option Addr) (l : List Ex) (idx : List Int) (w : World) (h : SlRd rEx 2 w A l) (hl : l.length ≤ 1048576) (hB : Rd w B (nums .i64 idx)) (hi : idx.length ≤ 1048576) :
    Calls Tryz.prog 91 #[.slice A l.length c, .slice B idx.length d] w fun e w' => Below w.heap.size w w' ∧
      (((∀ k, k < idx.length → goodI l.length (nth idx k)) ∧ ∃ A' c', e = .returned (.tuple #[.slice A' idx.length c', .bool true]) ∧ MapO w.heap.size w' (pickL l idx) idx.length (.slice A' idx.length c')) ∨ ((¬ ∀ k, k < idx.length → goodI l.length (nth idx k)) ∧ e = .returned (.tuple #[.slice none 0 0, .bool false]))) := by
  have hm := mapint_any w.heap.size c d A B l idx (w.alloc (.cells #[.slice A l.length c] 25)) (heap_alloc_new w _) (h.below stays_ex ((Below.refl _ w).alloc (Nat.le_refl _) _)) hl (hB.alloc _) hi
  have hpl := pickL_len l idx
  unfold PickIs at hm
  obtain ⟨n, hn⟩ : ∃ n, idx.length = n := ⟨_, rfl⟩
  obtain ⟨N, hN⟩ : ∃ N, l.length = N := ⟨_, rfl⟩
  rw [hn, hN] at hm ⊢
  rw [hn] at hpl
  have Hm := Lib.hid hm; have Hpl := Lib.hid hpl; clear hm hpl hn hN h hB
  go_enter Tryz.func91, Tryz.ntmps91
  go_wp2_with fail
  refine Hm.out.mono ?_
  rintro e w1 ⟨hb, hp⟩
  have hb1 : Below w.heap.size w w1 := ((Below.refl _ w).alloc (Nat.le_refl _) _).trans (hb.mono (by first | omega | (simp; done) | (simp; omega)))
  have Hb := Lib.hid hb1; clear hb hb1
  rcases hp with ⟨hg, v, rfl, hM⟩ | ⟨hg, rfl⟩
  · obtain ⟨A', c', rfl⟩ := hM.form
    have Hg := Lib.hid hg; have HM := Lib.hid hM; clear hg hM
    go_wp2_with fail
    go_ret2
    exact ⟨Hb.out, .inl ⟨Hg.out, _, _, rfl, HM.out.own.base (by simp)⟩⟩
  · have Hg := Lib.hid hg; clear hg
    go_wp2_with fail
    go_ret2
    exact ⟨Hb.out, .inr ⟨Hg.out, rfl⟩⟩
end Go.Proofs.YtfiojofcafjfeaaGreat
