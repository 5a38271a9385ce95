/- The walk of conf.Input. fixp.Sum: a range over an iterator over a slice. 'make' as an equation of the walk. No condition. -/
import Derived.Test.YtaccfnffmbndhaaGreatK04
import Derived.Test.YtaccfnffmbndhaaGreatK15
import Derived.Deep.RegionHeld3
import Derived.BigQuiet
import Derived.Deep.QuietTactic
import Derived.Test.YtaccfnffmbndhaaGreatK11
import Derived.Test.YtaccfnffmbndhaaGreatK03
import Derived.Test.YtaccfnffmbndhaaGreatK01
set_option linter.unusedSimpArgs false
set_option linter.unusedVariables false
namespace Go.Proofs.YtaccfnffmbndhaaGreat
open Go.RowKit
abbrev inpVals (A : Option Addr) (c : Nat) (D : Option Addr) (cd : Nat) (T : Option Addr) (ct : Nat) (R : Option Addr) (cr : Nat) (i : Inp) : Array Value :=
  #[.slice A i.cfg.sizes.length c, .int .i64 i.cfg.shift, .int .i64 i.cfg.rate, .int .i64 i.cfg.mom, .int .i64 i.cfg.workers, .int .i64 i.cfg.batch, .int .i64 i.cfg.micros, .int .i64 i.cfg.steps, .int .i64 i.cfg.bucket, .int .i64 i.cfg.chunk, .int .i64 i.cfg.window, .int .i64 i.cfg.cap,
    .slice D i.data.length cd, .slice T i.start.length ct, .slice R i.draws.length cr]
structure InpRd (w : World) (A : Option Addr) (c : Nat) (D : Option Addr) (T : Option Addr) (ct : Nat) (R : Option Addr) (i : Inp) : Prop where
  c : CfgRd w A c i.cfg
  d : SlRd rEx 2 w D i.data
  dl : i.data.length ≤ 1048576
  t : NumsRd w T i.start ct
  tl : i.start.length ≤ 1048576
  r : Rd w R (nums .u64 i.draws)
  rl : i.draws.length ≤ 1048576
  ru : U64 i.draws
  ra : -9223372036854775808 ≤ i.cfg.rate ∧ i.cfg.rate ≤ 9223372036854775807
  rm : -9223372036854775808 ≤ i.cfg.mom ∧ i.cfg.mom ≤ 9223372036854775807
theorem InpRd.below {w w' : World} {A : Option Addr} {c : Nat} {D T R : Option Addr} {ct : Nat} {i : Inp} (h : InpRd w A c D T ct R i) (hb : Below w.heap.size w w') : InpRd w' A c D T ct R i :=
  ⟨h.c.below hb, h.d.below stays_ex hb, h.dl, h.t.below hb, h.tl, h.r.below hb, h.rl, h.ru, h.ra, h.rm⟩
set_option maxRecDepth 100000 in
set_option maxHeartbeats 4000000 in
theorem input_any (A : Option Addr) (c : Nat) (D : Option Addr) (cd : Nat) (T : Option Addr) (ct : Nat) (R : Option Addr) (cr : Nat) (i : Inp) (w : World) (h : InpRd w A c D T ct R i) :
    Calls Tryz.prog 42 #[.agg (inpVals A c D cd T ct R cr i)] w fun e w' => e = .returned (.int .i64 (inCode i)) ∧ Below w.heap.size w w' := by
  have hck := fun w' (q : Below w.heap.size w w') => check_any A c i.cfg w' (h.c.below q)
  have hsn := fun w' (q : Below w.heap.size w w') => snew_code A i.cfg.sizes c w' (h.c.hr.below q) h.c.hc h.c.hm
  have hct := fun S w' (hS : ShapeAt 186 w' S i.cfg.sizes) => shape_count S i.cfg.sizes w' hS
  have hdc := fun a b w' (q : Below w.heap.size w w') => dcheck_any a b cd D i.data w' (h.d.below stays_ex q) h.dl
  have hnd := fun (hg : GoodCfg i.cfg) (hb : i.cfg.batch ≤ i.data.length ∧ (i.data.length : Int) ≤ 1048576) w' (q : Below w.heap.size w w') => need_any A c i.data.length i.cfg w' (h.c.below q) hg hb
  have fc := @in_c i; have f7 := @in_7 i; have f5 := @in_5 i; have f8 := @in_8 i; have f0 := @in_0 i
  have hgd := @cfg_good i.cfg
  have hsr := h.c.hr
  have hdl := h.dl; have htl := h.tl; have hrl := h.rl
  unfold DChkIs at hdc
  unfold batchB at f7 f5 f8 f0
  unfold shapeB fitB inN outN cnt at f5 f8 f0
  unfold drawsB at f8 f0
  obtain ⟨code, hcode⟩ : ∃ code, inCode i = code := ⟨_, rfl⟩
  rw [hcode] at fc f7 f5 f8 f0 ⊢
  clear hcode h
  obtain ⟨⟨sz, sh, ra, mo, wk, ba, mi, st, bu, ch, wi, ca⟩, data, start, draws⟩ := i
  dsimp only [inpVals, cfgVals] at *
  obtain ⟨L, hL⟩ : ∃ L, sz.length = L := ⟨_, rfl⟩
  obtain ⟨N, hN⟩ : ∃ N, data.length = N := ⟨_, rfl⟩
  obtain ⟨M, hM⟩ : ∃ M, start.length = M := ⟨_, rfl⟩
  obtain ⟨Q, hQ⟩ : ∃ Q, draws.length = Q := ⟨_, rfl⟩
  obtain ⟨cc, hcc⟩ : ∃ cc, cfgCode ⟨sz, sh, ra, mo, wk, ba, mi, st, bu, ch, wi, ca⟩ = cc := ⟨_, rfl⟩
  rw [hL] at hck hsn hct hnd f5 f8 f0 ⊢
  rw [hN] at hdc hnd f7 f5 f8 f0 hdl ⊢
  rw [hM] at f5 f8 f0 htl ⊢
  rw [hQ] at f8 f0 hrl ⊢
  rw [hcc] at hck fc f7 f5 f8 f0 hgd
  obtain ⟨CN, hCN⟩ : ∃ CN, cntN sz (L - 1) = CN := ⟨_, rfl⟩
  rw [hCN] at hct f5 f8 f0
  obtain ⟨ND, hND⟩ : ∃ ND, needN N ba.toNat st.toNat = ND := ⟨_, rfl⟩
  rw [hND] at hnd f8 f0
  have Hck := Lib.hid hck; have Hsn := Lib.hid hsn; have Hct := Lib.hid hct; have Hdc := Lib.hid hdc; have Hnd := Lib.hid hnd; have Fc := Lib.hid fc; have F7 := Lib.hid f7; have F5 := Lib.hid f5; have F8 := Lib.hid f8; have F0 := Lib.hid f0; have Hgd := Lib.hid hgd; have Hsr := Lib.hid hsr; have HL := Lib.hid hL; have HCN := Lib.hid hCN
  clear hck hsn hct hdc hnd fc f7 f5 f8 f0 hgd hsr hL hN hM hQ hcc hCN hND
  go_enter Tryz.func42, Tryz.ntmps42
  go_wp2_with fail
  have hz := (Below.heap_alloc (w.alloc (.cells #[.slice A L c, .int .i64 sh, .int .i64 ra, .int .i64 mo, .int .i64 wk, .int .i64 ba, .int .i64 mi, .int .i64 st, .int .i64 bu, .int .i64 ch, .int .i64 wi, .int .i64 ca, .slice D N cd, .slice T M ct, .slice R Q cr] 29)) (.cells #[.slice A L c, .int .i64 sh, .int .i64 ra, .int .i64 mo, .int .i64 wk, .int .i64 ba, .int .i64 mi, .int .i64 st, .int .i64 bu, .int .i64 ch, .int .i64 wi, .int .i64 ca] 24) w.heap.size (by simp)).trans (heap_alloc_new w _)
  have hy := heap_alloc_new (w.alloc (.cells #[.slice A L c, .int .i64 sh, .int .i64 ra, .int .i64 mo, .int .i64 wk, .int .i64 ba, .int .i64 mi, .int .i64 st, .int .i64 bu, .int .i64 ch, .int .i64 wi, .int .i64 ca, .slice D N cd, .slice T M ct, .slice R Q cr] 29)) (.cells #[.slice A L c, .int .i64 sh, .int .i64 ra, .int .i64 mo, .int .i64 wk, .int .i64 ba, .int .i64 mi, .int .i64 st, .int .i64 bu, .int .i64 ch, .int .i64 wi, .int .i64 ca] 24)
  rw [show (w.alloc (.cells #[.slice A L c, .int .i64 sh, .int .i64 ra, .int .i64 mo, .int .i64 wk, .int .i64 ba, .int .i64 mi, .int .i64 st, .int .i64 bu, .int .i64 ch, .int .i64 wi, .int .i64 ca, .slice D N cd, .slice T M ct, .slice R Q cr] 29)).heap.size = w.heap.size + 1 by simp] at hy
  have hB : Below w.heap.size w ((w.alloc (.cells #[.slice A L c, .int .i64 sh, .int .i64 ra, .int .i64 mo, .int .i64 wk, .int .i64 ba, .int .i64 mi, .int .i64 st, .int .i64 bu, .int .i64 ch, .int .i64 wi, .int .i64 ca, .slice D N cd, .slice T M ct, .slice R Q cr] 29)).alloc (.cells #[.slice A L c, .int .i64 sh, .int .i64 ra, .int .i64 mo, .int .i64 wk, .int .i64 ba, .int .i64 mi, .int .i64 st, .int .i64 bu, .int .i64 ch, .int .i64 wi, .int .i64 ca] 24)) := ((Below.refl _ w).alloc (Nat.le_refl _) _).alloc (by simp) _
  obtain ⟨W0, hW0⟩ : ∃ W0, W0 = (w.alloc (.cells #[.slice A L c, .int .i64 sh, .int .i64 ra, .int .i64 mo, .int .i64 wk, .int .i64 ba, .int .i64 mi, .int .i64 st, .int .i64 bu, .int .i64 ch, .int .i64 wi, .int .i64 ca, .slice D N cd, .slice T M ct, .slice R Q cr] 29)).alloc (.cells #[.slice A L c, .int .i64 sh, .int .i64 ra, .int .i64 mo, .int .i64 wk, .int .i64 ba, .int .i64 mi, .int .i64 st, .int .i64 bu, .int .i64 ch, .int .i64 wi, .int .i64 ca] 24) := ⟨_, rfl⟩
  rw [← hW0] at hz hy hB ⊢
  clear hW0
  refine (Hck.out _ hB).mono ?_
  rintro e w1 ⟨rfl, hb1⟩
  have hz1 := (hb1.block _ (lt_of_block hz)).trans hz
  have hy1 := (hb1.block _ (lt_of_block hy)).trans hy
  have HB := Lib.hid (hB.trans (hb1.mono hB.size))
  obtain ⟨⟨z0, z1, z2, z3, z4, z5, z6, z7, z8, z9, z10, z11, z12, z13, z14⟩, zf⟩ := bx15 hz1
  obtain ⟨⟨y0, y1, y2, y3, y4, y5, y6, y7, y8, y9, y10, y11⟩, yf⟩ := bx12 hy1
  have lz := lt_of_block hz1; have ly := lt_of_block hy1
  have HZ := Lib.hid hz1; have HY := Lib.hid hy1
  clear hz hy hB hb1 hz1 hy1
  by_cases h3 : cc ≠ 0
  · have hq : (cc != 0) = true := by rw [bne_iff_ne]; exact h3
    have H3 := Lib.hid h3; clear h3
    go_wp2_with fail
    go_ret
    exact ⟨ret_int (Fc.out H3.out).symm, HB.out⟩
  obtain rfl : cc = 0 := by omega
  clear h3
  have hg := Hgd.out.1 rfl
  have g1 := hg.w; have g2 := hg.ba; have g3 := hg.st; have gz := hg.z
  have HG := Lib.hid hg
  dsimp only at g1 g2 g3 gz
  clear hg
  have hl16 := gz.1.1
  rw [HL.out] at hl16
  have s0 := gz.1.at (k := 0) (by have := HL.out; omega)
  have s1 := gz.1.at (k := L - 1) (by have := HL.out; omega)
  obtain ⟨bz, oz, rfl, p0⟩ := Hsr.out.num (show 0 < sz.length by have := HL.out; omega)
  obtain ⟨_, _, e', p1⟩ := Hsr.out.num (show L - 1 < sz.length by have := HL.out; omega)
  injection e' with e'; injection e' with e1 e2 _; subst e1; subst e2
  rw [s0.2.2, Nat.add_zero] at p0
  rw [s1.2.2] at p1
  obtain ⟨n0, hn0⟩ : ∃ n0, szN sz 0 = n0 := ⟨_, rfl⟩
  obtain ⟨n1, hn1⟩ : ∃ n1, szN sz (L - 1) = n1 := ⟨_, rfl⟩
  have f5 := F5.out; have f8 := F8.out; have f0 := F0.out
  rw [hn0, hn1] at f5 f8 f0
  rw [hn0] at p0 s0
  rw [hn1] at p1 s1
  have F5 := Lib.hid f5; have F8 := Lib.hid f8; have F0 := Lib.hid f0; have HGZ := Lib.hid gz
  have hb5 : bz < w.heap.size := lt_of_cell p0
  have P0 := Lib.hid p0; have P1 := Lib.hid p1
  clear f5 f8 f0 gz hn0 hn1 p0 p1 s0 s1
  obtain ⟨bt, rfl⟩ : ∃ bt : Nat, ba = bt := ⟨ba.toNat, by omega⟩
  go_wp2_with fail
  refine (Hsn.out _ HB.out).mono ?_
  rintro e w2 ⟨hb2, hs⟩
  obtain ⟨S, rfl, hS⟩ : ∃ S, e = .returned (.tuple #[.pointer (some ⟨S, 0, none⟩), .int .i64 0]) ∧ ShapeAt 186 w2 S sz := by
    rcases hs with ⟨_, S, he, hS, _⟩ | ⟨hng, _⟩
    · exact ⟨S, he, hS⟩
    · exact absurd HGZ.out hng
  clear hs
  have hz2 := (hb2.block _ lz).trans HZ.out
  have hy2 := (hb2.block _ ly).trans HY.out
  have HB2 := Lib.hid (HB.out.trans (hb2.mono HB.out.size))
  clear z0 z1 z2 z3 z4 z5 z6 z7 z8 z9 z10 z11 z12 z13 z14 zf y0 y1 y2 y3 y4 y5 y6 y7 y8 y9 y10 y11 yf lz ly
  obtain ⟨⟨z0, z1, z2, z3, z4, z5, z6, z7, z8, z9, z10, z11, z12, z13, z14⟩, zf⟩ := bx15 hz2
  obtain ⟨⟨y0, y1, y2, y3, y4, y5, y6, y7, y8, y9, y10, y11⟩, yf⟩ := bx12 hy2
  have lz := lt_of_block hz2; have ly := lt_of_block hy2
  have HZ2 := Lib.hid hz2; have HY2 := Lib.hid hy2; have HS := Lib.hid hS
  clear hb2 hz2 hy2 hS
  have p0 := (HB2.out.cell (p := ⟨bz, oz, none⟩) hb5).trans P0.out
  have p1 := (HB2.out.cell (p := ⟨bz, oz + (L - 1), none⟩) hb5).trans P1.out
  have hw1 : IntKind.i64.wrap ((L : Int) - 1) = ((L - 1 : Nat) : Int) := by rw [IntWalk.i64_in _ (by omega)]; omega
  have hLi : ((L - 1 : Nat) : Int) < L := by omega
  have hLn : L - 1 < L := by omega
  have hL0 : 0 < L := by omega
  have hL0i : (0 : Int) < L := by omega
  go_wp2_with fail
  have hSw : (fun w' : World => w'.cell? ⟨w.heap.size, 12, none⟩ = some (.slice D N cd) ∧ w'.cell? ⟨w.heap.size + 1, 0, none⟩ = some (.slice (some ⟨bz, oz, none⟩) L c) ∧ w'.cell? ⟨bz, oz, none⟩ = some (.int .i64 n0) ∧ w'.cell? ⟨bz, oz + (L - 1), none⟩ = some (.int .i64 n1)) w2.drew := ⟨z12, y0, p0, p1⟩
  refine HA.g (fun w' : World => w'.cell? ⟨w.heap.size, 12, none⟩ = some (.slice D N cd) ∧ w'.cell? ⟨w.heap.size + 1, 0, none⟩ = some (.slice (some ⟨bz, oz, none⟩) L c) ∧ w'.cell? ⟨bz, oz, none⟩ = some (.int .i64 n0) ∧ w'.cell? ⟨bz, oz + (L - 1), none⟩ = some (.int .i64 n1)) ?_
  refine HA.t ?_ [0, 1, 2, 3, 4, 5, 6, 7, 8, 9, 10, 11, 12, 13] hSw ?_
  refine HA.o 14 (fun K hK => ?_)
  go_simp
  refine (Hdc.out n0 n1 _ HB2.out.drew).mono ?_
  rintro e w3 ⟨hb3, d, hd⟩
  have hS3 := And.intro (cell_below hb3 hSw.1) (And.intro (cell_below hb3 hSw.2.1) (And.intro (cell_below hb3 hSw.2.2.1) (cell_below hb3 hSw.2.2.2)))
  have hb3' : Below w2.heap.size w2 w3 := (Below.refl w2.heap.size w2).drew.trans hb3
  have hz3 := (hb3'.block _ lz).trans HZ2.out
  have hy3 := (hb3'.block _ ly).trans HY2.out
  have hs3 := HS.out.below hb3'
  have HB3 := Lib.hid (HB2.out.trans (hb3'.mono HB2.out.size))
  have HZ3 := Lib.hid hz3; have HY3 := Lib.hid hy3; have HS3 := Lib.hid hs3
  obtain ⟨fit, rfl, hfit⟩ : ∃ fit, e = .returned (.tuple #[.int .i64 d, .bool fit]) ∧ decide (∀ x ∈ data, fitEx n0 n1 x) = fit := by
    rcases hd with ⟨ha, rfl⟩ | ⟨ha, rfl⟩
    · exact ⟨true, rfl, decide_eq_true ha⟩
    · exact ⟨false, rfl, decide_eq_false ha⟩
  have Hfit := Lib.hid hfit
  clear hb3 hb3' hz3 hy3 hs3 hd hfit hSw
  dsimp only
  refine hK.out _ _ hS3 (fun hSw => ?_)
  clear hK K hS3
  refine HA.t ?_ [15, 16, 17, 18, 19] hSw ?_
  refine HA.d ?_
  clear hSw z0 z1 z2 z3 z4 z5 z6 z7 z8 z9 z10 z11 z12 z13 z14 zf y0 y1 y2 y3 y4 y5 y6 y7 y8 y9 y10 y11 yf lz ly hw1
  have hz3 := HZ3.out; have hy3 := HY3.out
  obtain ⟨⟨z0, z1, z2, z3, z4, z5, z6, z7, z8, z9, z10, z11, z12, z13, z14⟩, zf⟩ := bx15 hz3
  obtain ⟨⟨y0, y1, y2, y3, y4, y5, y6, y7, y8, y9, y10, y11⟩, yf⟩ := bx12 hy3
  have lz := lt_of_block hz3; have ly := lt_of_block hy3
  clear hz3 hy3
  by_cases h7 : N < bt
  · have hq : (N : Int) < bt := by omega
    go_wp2_with fail
    go_ret
    exact ⟨ret_int (F7.out trivial (by rw [decide_eq_false_iff_not]; omega)).symm, HB3.out⟩
  have hq7 : ¬ ((N : Int) < bt) := by omega
  have hq8 : ¬ ((1048576 : Int) < N) := by omega
  have G1 := Lib.hid (show decide ((bt : Int) ≤ N ∧ N ≤ 1048576) = true by rw [decide_eq_true_eq]; omega)
  rcases bool_ft fit with rfl | rfl
  · go_wp2_with fail
    go_quiet (fail)
    go_wp2_with fail
    go_ret
    exact ⟨ret_int (F5.out trivial G1.out (by rw [Hfit.out]; rfl)).symm, below_drewN HB3.out _⟩
  have hcnt := fun w' (q : Below w3.heap.size w3 w') => Hct.out S w' (HS3.out.below q)
  have Hcnt := Lib.hid hcnt; clear hcnt
  by_cases h5 : M ≠ CN
  · have hq : ((M : Int) != (CN : Int)) = true := by rw [bne_iff_ne]; omega
    have H5 := Lib.hid h5; clear h5
    go_wp2_with fail
    go_quiet ((go_at_call 46; refine Calls.quiet_of ((Hcnt.out _ ?_).mono fun e w' ⟨he, hw⟩ => ⟨he, 0, hw.symm⟩); (focus (repeat' (first | (with_reducible exact Below.refl _ _) | (with_reducible assumption) | (with_reducible refine Below.setCell ?_ ?_ _) | (with_reducible refine Below.alloc ?_ ?_ _) | (with_reducible refine below_drewN ?_ _) | (with_reducible refine Below.drew ?_) | (with_reducible exact Nat.le_refl _) | omega | (simp; done) | (simp; omega))))))
    go_wp2_with fail
    go_ret
    exact ⟨ret_int (F5.out trivial G1.out (by rw [Hfit.out, decide_eq_false H5.out]; rfl)).symm, below_drewN HB3.out _⟩
  have hq : ((M : Int) != (CN : Int)) = false := by rw [bne_eq_false_iff_eq]; omega
  have G2 := Lib.hid (show (decide (∀ x ∈ data, fitEx n0 n1 x) && decide (M = CN)) = true by rw [Hfit.out, decide_eq_true (show M = CN by omega)]; rfl)
  clear h5
  go_wp2_with fail
  go_quiet ((go_at_call 46; refine Calls.quiet_of ((Hcnt.out _ ?_).mono fun e w' ⟨he, hw⟩ => ⟨he, 0, hw.symm⟩); (focus (repeat' (first | (with_reducible exact Below.refl _ _) | (with_reducible assumption) | (with_reducible refine Below.setCell ?_ ?_ _) | (with_reducible refine Below.alloc ?_ ?_ _) | (with_reducible refine below_drewN ?_ _) | (with_reducible refine Below.drew ?_) | (with_reducible exact Nat.le_refl _) | omega | (simp; done) | (simp; omega))))))
  go_wp2_with fail
  obtain ⟨V, hV⟩ : ∃ V, V = w3.drewN nq := ⟨_, rfl⟩
  have hBV : Below w.heap.size w V := by rw [hV]; exact below_drewN HB3.out _
  have hzV : V.heap[w.heap.size]? = some (.cells #[.slice (some ⟨bz, oz, none⟩) L c, .int .i64 sh, .int .i64 ra, .int .i64 mo, .int .i64 wk, .int .i64 bt, .int .i64 mi, .int .i64 st, .int .i64 bu, .int .i64 ch, .int .i64 wi, .int .i64 ca, .slice D N cd, .slice T M ct, .slice R Q cr] 29 (0, 0)) := by rw [hV]; exact HZ3.out
  have hyV : V.heap[w.heap.size + 1]? = some (.cells #[.slice (some ⟨bz, oz, none⟩) L c, .int .i64 sh, .int .i64 ra, .int .i64 mo, .int .i64 wk, .int .i64 bt, .int .i64 mi, .int .i64 st, .int .i64 bu, .int .i64 ch, .int .i64 wi, .int .i64 ca] 24 (0, 0)) := by rw [hV]; exact HY3.out
  clear z0 z1 z2 z3 z4 z5 z6 z7 z8 z9 z10 z11 z12 z13 z14 zf y0 y1 y2 y3 y4 y5 y6 y7 y8 y9 y10 y11 yf
  rw [← hV]
  clear hV
  obtain ⟨⟨z0, z1, z2, z3, z4, z5, z6, z7, z8, z9, z10, z11, z12, z13, z14⟩, zf⟩ := bx15 hzV
  obtain ⟨⟨y0, y1, y2, y3, y4, y5, y6, y7, y8, y9, y10, y11⟩, yf⟩ := bx12 hyV
  have HBV := Lib.hid hBV; clear hBV hzV hyV
  have hnd := Hnd.out HG.out (by omega) V.drew HBV.out.drew
  have Hnd2 := Lib.hid hnd; clear hnd
  have hSw : (fun w' : World => w'.cell? ⟨w.heap.size, 14, none⟩ = some (.slice R Q cr) ∧ w'.cell? ⟨w.heap.size + 1, 0, none⟩ = some (.slice (some ⟨bz, oz, none⟩) L c) ∧ w'.cell? ⟨w.heap.size + 1, 1, none⟩ = some (.int .i64 sh) ∧ w'.cell? ⟨w.heap.size + 1, 2, none⟩ = some (.int .i64 ra) ∧ w'.cell? ⟨w.heap.size + 1, 3, none⟩ = some (.int .i64 mo) ∧ w'.cell? ⟨w.heap.size + 1, 4, none⟩ = some (.int .i64 wk) ∧ w'.cell? ⟨w.heap.size + 1, 5, none⟩ = some (.int .i64 bt) ∧ w'.cell? ⟨w.heap.size + 1, 6, none⟩ = some (.int .i64 mi) ∧ w'.cell? ⟨w.heap.size + 1, 7, none⟩ = some (.int .i64 st) ∧ w'.cell? ⟨w.heap.size + 1, 8, none⟩ = some (.int .i64 bu) ∧ w'.cell? ⟨w.heap.size + 1, 9, none⟩ = some (.int .i64 ch) ∧ w'.cell? ⟨w.heap.size + 1, 10, none⟩ = some (.int .i64 wi) ∧ w'.cell? ⟨w.heap.size + 1, 11, none⟩ = some (.int .i64 ca)) V.drew := ⟨z14, y0, y1, y2, y3, y4, y5, y6, y7, y8, y9, y10, y11⟩
  refine HA.g (fun w' : World => w'.cell? ⟨w.heap.size, 14, none⟩ = some (.slice R Q cr) ∧ w'.cell? ⟨w.heap.size + 1, 0, none⟩ = some (.slice (some ⟨bz, oz, none⟩) L c) ∧ w'.cell? ⟨w.heap.size + 1, 1, none⟩ = some (.int .i64 sh) ∧ w'.cell? ⟨w.heap.size + 1, 2, none⟩ = some (.int .i64 ra) ∧ w'.cell? ⟨w.heap.size + 1, 3, none⟩ = some (.int .i64 mo) ∧ w'.cell? ⟨w.heap.size + 1, 4, none⟩ = some (.int .i64 wk) ∧ w'.cell? ⟨w.heap.size + 1, 5, none⟩ = some (.int .i64 bt) ∧ w'.cell? ⟨w.heap.size + 1, 6, none⟩ = some (.int .i64 mi) ∧ w'.cell? ⟨w.heap.size + 1, 7, none⟩ = some (.int .i64 st) ∧ w'.cell? ⟨w.heap.size + 1, 8, none⟩ = some (.int .i64 bu) ∧ w'.cell? ⟨w.heap.size + 1, 9, none⟩ = some (.int .i64 ch) ∧ w'.cell? ⟨w.heap.size + 1, 10, none⟩ = some (.int .i64 wi) ∧ w'.cell? ⟨w.heap.size + 1, 11, none⟩ = some (.int .i64 ca)) ?_
  refine HA.t ?_ [0, 1, 2, 3, 4] hSw ?_
  refine HA.o 5 (fun K hK => ?_)
  go_simp
  refine Hnd2.out.mono ?_
  rintro e w4 ⟨rfl, hb4⟩
  have HB4 := Lib.hid (HBV.out.trans ((Below.refl V.heap.size V).drew.trans hb4 |>.mono HBV.out.size))
  have hS4 := And.intro (cell_below hb4 hSw.1) (And.intro (cell_below hb4 hSw.2.1) (And.intro (cell_below hb4 hSw.2.2.1) (And.intro (cell_below hb4 hSw.2.2.2.1) (And.intro (cell_below hb4 hSw.2.2.2.2.1) (And.intro (cell_below hb4 hSw.2.2.2.2.2.1) (And.intro (cell_below hb4 hSw.2.2.2.2.2.2.1) (And.intro (cell_below hb4 hSw.2.2.2.2.2.2.2.1) (And.intro (cell_below hb4 hSw.2.2.2.2.2.2.2.2.1) (And.intro (cell_below hb4 hSw.2.2.2.2.2.2.2.2.2.1) (And.intro (cell_below hb4 hSw.2.2.2.2.2.2.2.2.2.2.1) (And.intro (cell_below hb4 hSw.2.2.2.2.2.2.2.2.2.2.2.1) (cell_below hb4 hSw.2.2.2.2.2.2.2.2.2.2.2.2))))))))))))
  clear hb4 hSw
  dsimp only
  refine hK.out _ _ hS4 (fun hSw => ?_)
  clear hK K hS4
  refine HA.t ?_ [6, 7] hSw ?_
  refine HA.d ?_
  clear hSw z0 z1 z2 z3 z4 z5 z6 z7 z8 z9 z10 z11 z12 z13 z14 zf y0 y1 y2 y3 y4 y5 y6 y7 y8 y9 y10 y11 yf
  by_cases h8 : ND ≤ Q
  · have hq9 : ¬ ((Q : Int) < ND) := by omega
    have hqd : decide ((Q : Int) < ND) = false := by simp; omega
    have hqe : decide (Q < ND) = false := by simp; omega
    have G8 := Lib.hid (decide_eq_true h8)
    go_wp2_with fail
    go_ret
    exact ⟨ret_int (F0.out trivial G1.out G2.out G8.out).symm, HB4.out⟩
  · have hq9 : (Q : Int) < ND := by omega
    have hqd : decide ((Q : Int) < ND) = true := by simp; omega
    have hqe : decide (Q < ND) = true := by simp; omega
    have G8 := Lib.hid (decide_eq_false h8)
    go_wp2_with fail
    go_ret
    exact ⟨ret_int (F8.out trivial G1.out G2.out G8.out).symm, HB4.out⟩
end Go.Proofs.YtaccfnffmbndhaaGreat
namespace Go.Proofs.YtaccfnffmbndhaaGreat
open Go.RowKit Go.Shelf
attribute [local go_sem] Oper.semAt_some
end Go.Proofs.YtaccfnffmbndhaaGreat
namespace Go.Proofs.YtaccfnffmbndhaaGreat
open Go.RowKit
theorem run_mk {P : Program} {t e : TypeId} {z : Value} {bytes : Nat} (T : ElemT P t e z 1 bytes) (w : World) (hzc : z.cells = #[z]) (n : Nat) (b2 : bytes * n ≤ 281474976710656) (b3 : n ≤ maxLen) :
    ∃ w', Sem.run P (Instr.makeSlice t (.int .i64 (n : Int)) (.int .i64 (n : Int))) w = .ok (.slice (some ⟨w.heap.size, 0, none⟩) n n) w' ∧ w'.ownsRow w.heap.size e 1 (.slice (some ⟨w.heap.size, 0, none⟩) n n) n (List.replicate n z) ∧ Below w.heap.size w w' := by
  obtain ⟨i, hi, hz0, hz1, hz2⟩ := T.info
  obtain ⟨w', hrun, r1, r2⟩ := run_make_full (P := P) w w.heap.size t e i z 1 T.und hi hz0 hz1 .i64 .i64 n (by rw [hz2]; exact b2) b3 (Nat.le_refl _)
  rw [hzc, Nat.mul_one, toList_madeCells_one] at r1
  exact ⟨w', hrun, r1, ⟨r2.os, r2.tape, r2.output, r2.size, fun k hk => r2.block k hk (by simp)⟩⟩
end Go.Proofs.YtaccfnffmbndhaaGreat
