/- The walk of conf.Check. The walks of conf.Epochs, Need. No condition. -/
import Derived.Test.YtaccfnffmbndhaaGreatK11
import Derived.Test.YtaccfnffmbndhaaGreatK05
import Derived.Test.YtaccfnffmbndhaaGreatK14
set_option linter.unusedSimpArgs false
set_option linter.unusedVariables false
namespace Go.Proofs.YtaccfnffmbndhaaGreat
open Go.RowKit
theorem size_any (n : Int) (w : World) : Calls Tryz.prog 132 #[.int .i64 n] w fun e w' => e = .returned (.bool (okB n)) ∧ w = w' := by
  by_cases h1 : n < 1
  · go_enter Tryz.func132, Tryz.ntmps132
    go_wp2
    go_ret
    exact ⟨ret_bool (by unfold okB; simp; omega), rfl⟩
  · by_cases h2 : 1048576 < n
    · go_enter Tryz.func132, Tryz.ntmps132
      go_wp2
      go_ret
      exact ⟨ret_bool (by unfold okB; simp; omega), rfl⟩
    · go_enter Tryz.func132, Tryz.ntmps132
      go_wp2
      go_ret
      exact ⟨ret_bool (by unfold okB; simp; omega), rfl⟩
def SnewC (sz : List Int) (w : World) (e : Ending) (w' : World) : Prop := Below w.heap.size w w' ∧ ((GoodSz sz ∧ ∃ b, e = .returned (.tuple #[.pointer (some ⟨b, 0, none⟩), .int .i64 0]) ∧ ShapeAt 186 w' b sz ∧ w.heap.size ≤ b) ∨ (¬ GoodSz sz ∧ e = .returned (.tuple #[.pointer none, .int .i64 (szCode sz)])))
def SnewCT (sz : List Int) (w : World) (e : Ending) (w' : World) : Prop := Below w.heap.size w w' ∧ ((GoodSz sz ∧ ∃ b, e = .returned (.tuple #[.pointer (some ⟨b, 0, none⟩), .int .i64 0]) ∧ ShapeAt 186 (topW w.heap.size w') b sz ∧ w.heap.size ≤ b) ∨ (¬ GoodSz sz ∧ e = .returned (.tuple #[.pointer none, .int .i64 (szCode sz)])))
theorem snew_codeT (A : Option Addr) (sz : List Int) (c : Nat) (w : World) (hA : Rd w A (nums .i64 sz)) (hc : sz.length ≤ c) (hm : c ≤ 9223372036854775807) :
    Calls Tryz.prog 43 #[.slice A sz.length c] w (SnewCT sz w) := by
  by_cases h1 : 2 ≤ sz.length ∧ sz.length ≤ 16
  · by_cases h2 : ∀ k, k < sz.length → 1 ≤ nth sz k ∧ nth sz k ≤ 1048576
    · refine (snew_rightT A sz c w hA hc hm ⟨h1, h2⟩).mono fun e w' ⟨hb, h⟩ => ⟨hb, ?_⟩
      rcases h with ⟨h, he⟩ | ⟨h, b, he, hs, hz⟩
      · have hg : ¬ GoodSz sz := fun hg => by have := hg.2; omega
        exact .inr ⟨hg, by rw [szCode_long hg ⟨h1, h2⟩]; exact he⟩
      · exact .inl ⟨⟨⟨h1, h2⟩, h⟩, b, he, hs, hz⟩
    · refine (snew_wrong A sz c w hA hc hm h1 h2).mono fun e w' ⟨he, hw⟩ => ?_
      subst hw
      exact ⟨Below.refl _ _, .inr ⟨fun hg => h2 hg.1.2, by rw [szCode_wrong (fun hr => h2 hr.2)]; exact he⟩⟩
  · refine (snew_short A sz c w hc hm h1).mono fun e w' ⟨he, hw⟩ => ?_
    subst hw
    exact ⟨Below.refl _ _, .inr ⟨fun hg => h1 hg.1.1, by rw [szCode_wrong (fun hr => h1 hr.1)]; exact he⟩⟩
theorem snew_code (A : Option Addr) (sz : List Int) (c : Nat) (w : World) (hA : Rd w A (nums .i64 sz)) (hc : sz.length ≤ c) (hm : c ≤ 9223372036854775807) :
    Calls Tryz.prog 43 #[.slice A sz.length c] w (SnewC sz w) := by
  refine (snew_codeT A sz c w hA hc hm).mono ?_
  rintro e w' ⟨hb, ⟨hg, b, he, hs, hz⟩ | h⟩
  · exact ⟨hb, .inl ⟨hg, b, he, top_shape hs (Agr.refl _ _), hz⟩⟩
  · exact ⟨hb, .inr h⟩
abbrev cfgVals (A : Option Addr) (c : Nat) (k : Cfg) : Array Value := #[.slice A k.sizes.length c, .int .i64 k.shift, .int .i64 k.rate, .int .i64 k.mom, .int .i64 k.workers, .int .i64 k.batch, .int .i64 k.micros, .int .i64 k.steps, .int .i64 k.bucket, .int .i64 k.chunk, .int .i64 k.window, .int .i64 k.cap]
structure CfgRd (w : World) (A : Option Addr) (c : Nat) (k : Cfg) : Prop where
  hc : k.sizes.length ≤ c
  hm : c ≤ 9223372036854775807
  hl : k.sizes.length ≤ 17592186043904
  hr : Rd w A (nums .i64 k.sizes)
theorem CfgRd.below {w w' : World} {A : Option Addr} {c : Nat} {k : Cfg} (h : CfgRd w A c k) (hb : Below w.heap.size w w') : CfgRd w' A c k := ⟨h.hc, h.hm, h.hl, h.hr.below hb⟩
set_option maxRecDepth 100000 in
set_option maxHeartbeats 4000000 in
theorem check_any (A : Option Addr) (c : Nat) (k : Cfg) (w : World) (h : CfgRd w A c k) :
    Calls Tryz.prog 88 #[.agg (cfgVals A c k)] w fun e w' => e = .returned (.int .i64 (cfgCode k)) ∧ Below w.heap.size w w' := by
  have hsn := fun w' (q : Below w.heap.size w w') => snew_code A k.sizes c w' (h.hr.below q) h.hc h.hm
  have f6 := @cfg_6 k; have f9 := @cfg_9 k; have fs := @cfg_s k; have f2 := @cfg_2 k; have f7 := @cfg_7 k; have f0 := @cfg_0 k
  unfold wkB shB numsB baB stepsB at *
  obtain ⟨code, hcode⟩ : ∃ code, cfgCode k = code := ⟨_, rfl⟩
  rw [hcode] at f6 f9 fs f2 f7 f0 ⊢
  clear hcode h
  obtain ⟨sz, sh, ra, mo, wk, ba, mi, st, bu, ch, wi, ca⟩ := k
  dsimp only [cfgVals] at *
  obtain ⟨L, hL⟩ : ∃ L, sz.length = L := ⟨_, rfl⟩
  rw [hL] at hsn ⊢
  have Hsn := Lib.hid hsn; have F6 := Lib.hid f6; have F9 := Lib.hid f9; have Fs := Lib.hid fs; have F2 := Lib.hid f2; have F7 := Lib.hid f7; have F0 := Lib.hid f0
  clear hsn f6 f9 fs f2 f7 f0 hL
  go_enter Tryz.func88, Tryz.ntmps88
  go_wp2_with fail
  have hz := heap_alloc_new w (.cells #[.slice A L c, .int .i64 sh, .int .i64 ra, .int .i64 mo, .int .i64 wk, .int .i64 ba, .int .i64 mi, .int .i64 st, .int .i64 bu, .int .i64 ch, .int .i64 wi, .int .i64 ca] 24)
  have hB := (Below.refl _ w).alloc (Nat.le_refl _) (.cells #[.slice A L c, .int .i64 sh, .int .i64 ra, .int .i64 mo, .int .i64 wk, .int .i64 ba, .int .i64 mi, .int .i64 st, .int .i64 bu, .int .i64 ch, .int .i64 wi, .int .i64 ca] 24)
  refine (Hsn.out _ hB).mono ?_
  rintro e w1 ⟨hb1, hs⟩
  have hz1 := (hb1.block _ (lt_of_block hz)).trans hz
  have HB := Lib.hid (hB.trans (hb1.mono hB.size))
  obtain ⟨⟨z0, z1, z2, z3, z4, z5, z6, z7, z8, z9, z10, z11⟩, zf⟩ := bx12 hz1
  clear hz hB hb1 hz1
  -- the sizes' code
  obtain ⟨p, sc, rfl, hsc⟩ : ∃ p sc, e = .returned (.tuple #[.pointer p, .int .i64 sc]) ∧ szCode sz = sc := by
    rcases hs with ⟨hg, b, rfl, _⟩ | ⟨hg, rfl⟩
    · exact ⟨_, 0, rfl, szCode_good hg⟩
    · exact ⟨_, _, rfl, rfl⟩
  have Hsc := Lib.hid hsc
  clear hs hsc
  by_cases h1 : wk < 1
  · go_wp2_with fail
    go_ret
    exact ⟨ret_int (F6.out (by rw [decide_eq_false_iff_not]; omega)).symm, HB.out⟩
  by_cases h1' : 64 < wk
  · go_wp2_with fail
    go_ret
    exact ⟨ret_int (F6.out (by rw [decide_eq_false_iff_not]; omega)).symm, HB.out⟩
  have G1 := Lib.hid (show decide (1 ≤ wk ∧ wk ≤ 64) = true by rw [decide_eq_true_eq]; omega)
  by_cases h2 : sh < 1
  · go_wp2_with fail
    go_ret
    exact ⟨ret_int (F9.out G1.out (by rw [decide_eq_false_iff_not]; omega)).symm, HB.out⟩
  by_cases h2' : 62 < sh
  · go_wp2_with fail
    go_ret
    exact ⟨ret_int (F9.out G1.out (by rw [decide_eq_false_iff_not]; omega)).symm, HB.out⟩
  have G2 := Lib.hid (show decide (1 ≤ sh ∧ sh ≤ 62) = true by rw [decide_eq_true_eq]; omega)
  by_cases h3 : sc ≠ 0
  · have hq : (sc != 0) = true := by rw [bne_iff_ne]; exact h3
    have H3 := Lib.hid h3; clear h3
    go_wp2_with fail
    go_ret
    exact ⟨ret_int (by rw [Fs.out G1.out G2.out (by rw [Hsc.out]; exact H3.out)]; exact Hsc.out.symm), HB.out⟩
  obtain rfl : sc = 0 := by omega
  clear h3
  go_wp2_with fail
  refine (size_any mi _).mono ?_
  rintro e w' ⟨rfl, rfl⟩
  obtain ⟨b0, hb0⟩ : ∃ b, okB mi = b := ⟨_, rfl⟩
  have O0 := Lib.hid hb0
  rw [hb0]
  clear hb0
  rcases bool_ft b0 with rfl | rfl
  · go_wp2_with fail
    go_ret
    exact ⟨ret_int (F2.out G1.out G2.out Hsc.out (by simp [O0.out])).symm, HB.out⟩
  go_wp2_with fail
  refine (size_any bu _).mono ?_
  rintro e w' ⟨rfl, rfl⟩
  obtain ⟨b1, hb1⟩ : ∃ b, okB bu = b := ⟨_, rfl⟩
  have O1 := Lib.hid hb1
  rw [hb1]
  clear hb1
  rcases bool_ft b1 with rfl | rfl
  · go_wp2_with fail
    go_ret
    exact ⟨ret_int (F2.out G1.out G2.out Hsc.out (by simp [O0.out, O1.out])).symm, HB.out⟩
  go_wp2_with fail
  refine (size_any ch _).mono ?_
  rintro e w' ⟨rfl, rfl⟩
  obtain ⟨b2, hb2⟩ : ∃ b, okB ch = b := ⟨_, rfl⟩
  have O2 := Lib.hid hb2
  rw [hb2]
  clear hb2
  rcases bool_ft b2 with rfl | rfl
  · go_wp2_with fail
    go_ret
    exact ⟨ret_int (F2.out G1.out G2.out Hsc.out (by simp [O0.out, O1.out, O2.out])).symm, HB.out⟩
  go_wp2_with fail
  refine (size_any wi _).mono ?_
  rintro e w' ⟨rfl, rfl⟩
  obtain ⟨b3, hb3⟩ : ∃ b, okB wi = b := ⟨_, rfl⟩
  have O3 := Lib.hid hb3
  rw [hb3]
  clear hb3
  rcases bool_ft b3 with rfl | rfl
  · go_wp2_with fail
    go_ret
    exact ⟨ret_int (F2.out G1.out G2.out Hsc.out (by simp [O0.out, O1.out, O2.out, O3.out])).symm, HB.out⟩
  go_wp2_with fail
  refine (size_any ca _).mono ?_
  rintro e w' ⟨rfl, rfl⟩
  obtain ⟨b4, hb4⟩ : ∃ b, okB ca = b := ⟨_, rfl⟩
  have O4 := Lib.hid hb4
  rw [hb4]
  clear hb4
  rcases bool_ft b4 with rfl | rfl
  · go_wp2_with fail
    go_ret
    exact ⟨ret_int (F2.out G1.out G2.out Hsc.out (by simp [O0.out, O1.out, O2.out, O3.out, O4.out])).symm, HB.out⟩
  by_cases h4 : st = 0
  · have hq : (st != 0) = false := by rw [h4]; rfl
    have G4 := Lib.hid (show (okB mi && okB bu && okB ch && okB wi && okB ca && decide (0 ≤ st ∧ st ≤ 1048576)) = true by rw [O0.out, O1.out, O2.out, O3.out, O4.out]; simp; omega)
    clear h4
    by_cases h5 : ba < wk
    · go_wp2_with fail
      go_ret
      exact ⟨ret_int (F7.out G1.out G2.out Hsc.out G4.out (by rw [decide_eq_false_iff_not]; omega)).symm, HB.out⟩
    by_cases h5' : 1048576 < ba
    · go_wp2_with fail
      go_ret
      exact ⟨ret_int (F7.out G1.out G2.out Hsc.out G4.out (by rw [decide_eq_false_iff_not]; omega)).symm, HB.out⟩
    go_wp2_with fail
    go_ret
    exact ⟨ret_int (F0.out G1.out G2.out Hsc.out G4.out (by rw [decide_eq_true_eq]; omega)).symm, HB.out⟩
  · have hq : (st != 0) = true := by rw [bne_iff_ne]; exact h4
    have H4 := Lib.hid h4; clear h4
    go_wp2_with fail
    refine (size_any st _).mono ?_
    rintro e w' ⟨rfl, rfl⟩
    obtain ⟨b5, hb5⟩ : ∃ b, okB st = b := ⟨_, rfl⟩
    have O5 := Lib.hid hb5
    rw [hb5]
    clear hb5
    rcases bool_ft b5 with rfl | rfl
    · go_wp2_with fail
      go_ret
      exact ⟨ret_int (F2.out G1.out G2.out Hsc.out (by rw [O0.out, O1.out, O2.out, O3.out, O4.out]; have := okB_false O5.out; have := H4.out; simp; omega)).symm, HB.out⟩
    have G4 := Lib.hid (show (okB mi && okB bu && okB ch && okB wi && okB ca && decide (0 ≤ st ∧ st ≤ 1048576)) = true by rw [O0.out, O1.out, O2.out, O3.out, O4.out]; have := okB_true O5.out; simp; omega)
    by_cases h5 : ba < wk
    · go_wp2_with fail
      go_ret
      exact ⟨ret_int (F7.out G1.out G2.out Hsc.out G4.out (by rw [decide_eq_false_iff_not]; omega)).symm, HB.out⟩
    by_cases h5' : 1048576 < ba
    · go_wp2_with fail
      go_ret
      exact ⟨ret_int (F7.out G1.out G2.out Hsc.out G4.out (by rw [decide_eq_false_iff_not]; omega)).symm, HB.out⟩
    go_wp2_with fail
    go_ret
    exact ⟨ret_int (F0.out G1.out G2.out Hsc.out G4.out (by rw [decide_eq_true_eq]; omega)).symm, HB.out⟩
end Go.Proofs.YtaccfnffmbndhaaGreat
namespace Go.Proofs.YtaccfnffmbndhaaGreat
open Go.RowKit
theorem pneed_any (n : Nat) (w : World) (hn : 1 ≤ n) (hn2 : n ≤ 1048576) : Calls Tryz.prog 136 #[.int .i64 n] w fun e w' => e = .returned (.int .i64 ((n - 1 : Nat) : Int)) ∧ w = w' := by
  have h1 : (0 : Int) ≤ (n : Int) - 1 := by omega
  go_enter Tryz.func136, Tryz.ntmps136
  go_wp2
  all_goals
    go_ret
    exact ⟨ret_int (by omega), rfl⟩
set_option maxRecDepth 100000 in
set_option maxHeartbeats 1000000 in
theorem epochs_any (A : Option Addr) (c n : Nat) (k : Cfg) (w : World) (h : CfgRd w A c k) (hg : GoodCfg k) (hn : k.batch ≤ n ∧ (n : Int) ≤ 1048576) :
    Calls Tryz.prog 135 #[.agg (cfgVals A c k), .int .i64 n] w fun e w' => e = .returned (.int .i64 (epN n k.batch.toNat k.steps.toNat : Int)) ∧ Below w.heap.size w w' := by
  have hck := fun w' (q : Below w.heap.size w w') => check_any A c k w' (h.below q)
  rw [cfg_good.2 hg] at hck
  have g1 := hg.w; have g2 := hg.ba; have g3 := hg.st
  clear h hg
  obtain ⟨sz, sh, ra, mo, wk, ba, mi, st, bu, ch, wi, ca⟩ := k
  dsimp only [cfgVals] at *
  obtain ⟨bt, rfl⟩ : ∃ bt : Nat, ba = bt := ⟨ba.toNat, by omega⟩
  obtain ⟨sn, rfl⟩ : ∃ sn : Nat, st = sn := ⟨st.toNat, by omega⟩
  rw [Int.toNat_natCast, Int.toNat_natCast]
  obtain ⟨L, hL⟩ : ∃ L, sz.length = L := ⟨_, rfl⟩
  rw [hL] at hck ⊢
  obtain ⟨per, hper⟩ : ∃ per, n / bt = per := ⟨_, rfl⟩
  have hper1 : 1 ≤ per := by rw [← hper]; exact Nat.div_pos (by omega) (by omega)
  have hper2 : per ≤ n := by rw [← hper]; exact Nat.div_le_self _ _
  have hE : epN n bt sn = (sn + per - 1) / per := by unfold epN; rw [hper, cntQ_eq _ _ hper1]
  rw [hE]
  have hEl : (sn + per - 1) / per ≤ sn + per - 1 := Nat.div_le_self _ _
  obtain ⟨E, hE2⟩ : ∃ E, (sn + per - 1) / per = E := ⟨_, rfl⟩
  rw [hE2] at hEl ⊢
  have hq1 : (n : Int).tdiv (bt : Int) = (per : Int) := by rw [← hper]; rfl
  have hq1' : (n : Int) / (bt : Int) = (per : Int) := by rw [← hper]; rfl
  have hcast : (sn : Int) + per - 1 = ((sn + per - 1 : Nat) : Int) := by omega
  have hq2 : ((sn : Int) + per - 1).tdiv (per : Int) = (E : Int) := by rw [hcast, ← hE2]; rfl
  have hq2' : ((sn : Int) + per - 1) / (per : Int) = (E : Int) := by rw [hcast, ← hE2]; rfl
  have hq3 : ¬ (bt = 0) := by omega
  have hq4 : ¬ (per = 0) := by omega
  have hq5 : ¬ ((n : Int) < bt) := by omega
  have hq6 : ¬ ((1048576 : Int) < n) := by omega
  have Hck := Lib.hid hck
  clear hck hL hper hE hE2 hcast
  go_enter Tryz.func135, Tryz.ntmps135
  go_wp2_with fail
  have hz := heap_alloc_new w (.cells #[.slice A L c, .int .i64 sh, .int .i64 ra, .int .i64 mo, .int .i64 wk, .int .i64 bt, .int .i64 mi, .int .i64 sn, .int .i64 bu, .int .i64 ch, .int .i64 wi, .int .i64 ca] 24)
  have hB := (Below.refl _ w).alloc (Nat.le_refl _) (.cells #[.slice A L c, .int .i64 sh, .int .i64 ra, .int .i64 mo, .int .i64 wk, .int .i64 bt, .int .i64 mi, .int .i64 sn, .int .i64 bu, .int .i64 ch, .int .i64 wi, .int .i64 ca] 24)
  refine (Hck.out _ hB).mono ?_
  rintro e w1 ⟨rfl, hb1⟩
  have hz1 := (hb1.block _ (lt_of_block hz)).trans hz
  have HB := Lib.hid (hB.trans (hb1.mono hB.size))
  obtain ⟨⟨z0, z1, z2, z3, z4, z5, z6, z7, z8, z9, z10, z11⟩, zf⟩ := bx12 hz1
  clear hz hB hb1 hz1
  go_wp2_with fail
  go_ret
  exact ⟨rfl, HB.out⟩
set_option maxRecDepth 100000 in
theorem need_any (A : Option Addr) (c n : Nat) (k : Cfg) (w : World) (h : CfgRd w A c k) (hg : GoodCfg k) (hn : k.batch ≤ n ∧ (n : Int) ≤ 1048576) :
    Calls Tryz.prog 90 #[.agg (cfgVals A c k), .int .i64 n] w fun e w' => e = .returned (.int .i64 (needN n k.batch.toNat k.steps.toNat : Int)) ∧ Below w.heap.size w w' := by
  have hep := fun w' (q : Below w.heap.size w w') => epochs_any A c n k w' (h.below q) hg hn
  have g1 := hg.w; have g2 := hg.ba; have g3 := hg.st
  have hpn := fun w' => pneed_any n w' (by omega) (by omega)
  have hle := needN_le (n := n) (b := k.batch.toNat) (st := k.steps.toNat) (by omega) (by omega)
  unfold needN at hle ⊢
  clear h hg
  obtain ⟨sz, sh, ra, mo, wk, ba, mi, st, bu, ch, wi, ca⟩ := k
  dsimp only [cfgVals] at *
  obtain ⟨L, hL⟩ : ∃ L, sz.length = L := ⟨_, rfl⟩
  rw [hL] at hep ⊢
  obtain ⟨E, hE⟩ : ∃ E, epN n ba.toNat st.toNat = E := ⟨_, rfl⟩
  obtain ⟨m, hm⟩ : ∃ m, n - 1 = m := ⟨_, rfl⟩
  rw [hE] at hep hle ⊢
  rw [hm] at hpn hle ⊢
  obtain ⟨y, hy⟩ : ∃ y, E * m = y := ⟨_, rfl⟩
  rw [hy] at hle ⊢
  have hmul : (E : Int) * (m : Int) = (y : Int) := by rw [← hy]; push_cast; rfl
  have Hep := Lib.hid hep; have Hpn := Lib.hid hpn
  clear hep hpn hL hE hm hy
  go_enter Tryz.func90, Tryz.ntmps90
  go_wp2_with fail
  have hz := heap_alloc_new w (.cells #[.slice A L c, .int .i64 sh, .int .i64 ra, .int .i64 mo, .int .i64 wk, .int .i64 ba, .int .i64 mi, .int .i64 st, .int .i64 bu, .int .i64 ch, .int .i64 wi, .int .i64 ca] 24)
  have hB := (Below.refl _ w).alloc (Nat.le_refl _) (.cells #[.slice A L c, .int .i64 sh, .int .i64 ra, .int .i64 mo, .int .i64 wk, .int .i64 ba, .int .i64 mi, .int .i64 st, .int .i64 bu, .int .i64 ch, .int .i64 wi, .int .i64 ca] 24)
  refine (Hep.out _ hB).mono ?_
  rintro e w1 ⟨rfl, hb1⟩
  have HB := Lib.hid (hB.trans (hb1.mono hB.size))
  clear hz hB hb1
  go_wp2_with fail
  refine (Hpn.out _).mono ?_
  rintro e w2 ⟨rfl, rfl⟩
  go_wp2_with fail
  go_ret
  exact ⟨rfl, HB.out⟩
end Go.Proofs.YtaccfnffmbndhaaGreat
