/- What shape.New, net.New and the reference's Clone answer, whatever they are given. The walk of conf.Check. The walks of conf.Epochs, Need. No condition. -/
import Derived.Test.YtfiojofcafjfeaaGreatJ19
import Derived.Test.YtfiojofcafjfeaaGreatJ12
import Derived.Test.YtfiojofcafjfeaaGreatJ14
import Derived.Test.YtfiojofcafjfeaaGreatJ18
set_option linter.unusedSimpArgs false
set_option linter.unusedVariables false
namespace Go.Proofs.YtfiojofcafjfeaaGreat
open Go.RowKit

/-- What shape.New answers. -/
def SnewIs (sz : List Int) (w : World) (e : Ending) (w' : World) : Prop := Below w.heap.size w w' ∧ ((GoodSz sz ∧ ∃ b, e = .returned (.tuple #[.pointer (some ⟨b, 0, none⟩), .int .i64 0]) ∧ ShapeAt 138 w' b sz ∧ w.heap.size ≤ b) ∨ (¬ GoodSz sz ∧ ∃ c : Int, e = .returned (.tuple #[.pointer none, .int .i64 c])))
theorem snew_any (A : Option Addr) (sz : List Int) (c : Nat) (w : World) (hA : Rd w A (nums .i64 sz)) (hc : sz.length ≤ c) (hm : c ≤ 9223372036854775807) :
    Calls Tryz.prog 46 #[.slice A sz.length c] w (SnewIs sz w) := by
  by_cases h1 : 2 ≤ sz.length ∧ sz.length ≤ 16
  · by_cases h2 : ∀ k, k < sz.length → 1 ≤ nth sz k ∧ nth sz k ≤ 1048576
    · refine (snew_right A sz c w hA hc hm ⟨h1, h2⟩).mono fun e w' ⟨hb, h⟩ => ⟨hb, ?_⟩
      rcases h with ⟨h, he⟩ | ⟨h, b, he, hs, hz⟩
      · exact .inr ⟨fun hg => by have := hg.2; omega, 4, he⟩
      · exact .inl ⟨⟨⟨h1, h2⟩, h⟩, b, he, hs, hz⟩
    · refine (snew_wrong A sz c w hA hc hm h1 h2).mono fun e w' ⟨he, hw⟩ => ?_
      subst hw
      exact ⟨Below.refl _ _, .inr ⟨fun hg => h2 hg.1.2, 5, he⟩⟩
  · refine (snew_short A sz c w hc hm h1).mono fun e w' ⟨he, hw⟩ => ?_
    subst hw
    exact ⟨Below.refl _ _, .inr ⟨fun hg => h1 hg.1.1, 5, he⟩⟩

/-- What New answers. -/
def LnewIs (sz ps : List Int) (q : Int) (w : World) (e : Ending) (w' : World) : Prop := Below w.heap.size w w' ∧ ((RightN sz ps q ∧ ∃ b, e = .returned (.tuple #[.pointer (some ⟨b, 0, none⟩), .bool true]) ∧ NetAt 138 170 w' b sz ps q ∧ NetP w' w.heap.size b ps) ∨ (¬ RightN sz ps q ∧ e = .returned (.tuple #[.pointer none, .bool false])))
theorem nnew_any (S : Nat) (sz ps : List Int) (A : Option Addr) (c : Nat) (q : Int) (w : World) (hS : ShapeAt 138 w S sz) (hg : GoodSz sz) (hA : Rd w A (nums .i64 ps)) :
    Calls Tryz.prog 92 #[.pointer (some ⟨S, 0, none⟩), .slice A ps.length c, .int .i64 q] w (LnewIs sz ps q w) := by
  by_cases hq : 0 ≤ q ∧ q ≤ 62
  · by_cases hl : ps.length = cntN sz (sz.length - 1)
    · refine (net_new S sz ps A c q w hS hg hq hl hA).mono fun e w' ⟨b, he, hn, hz, hb⟩ => ⟨hb, .inl ⟨⟨hg, hq.1, hq.2, hl⟩, b, he, hn, hz⟩⟩
    · refine (net_no_len S sz ps A c q w hS hl).mono fun e w' ⟨he, hw⟩ => ?_
      subst hw
      exact ⟨Below.refl _ _, .inr ⟨fun h => hl h.2.2.2, he⟩⟩
  · refine (net_no_shift S _ q w hq).mono fun e w' ⟨he, hw⟩ => ?_
    subst hw
    exact ⟨Below.refl _ _, .inr ⟨fun h => hq ⟨h.2.1, h.2.2.1⟩, he⟩⟩
theorem rd_new (w : World) (xs : List Value) (e : TypeId) : Rd (w.alloc (.cells xs.toArray e)) (some ⟨w.heap.size, 0, none⟩) xs := rd_newN w xs e _ rfl

theorem rclone_any (A : Option Addr) (zs : List Int) (c : Nat) (w : World) (hA : Rd w A (nums .i64 zs)) (hl : zs.length ≤ 17592186043904) :
    Calls Tryz.prog 24 #[.slice A zs.length c] w fun e w' => ∃ A' c', e = .returned (.slice A' zs.length c') ∧ w'.ownsRow w.heap.size 2 1 (.slice A' zs.length c') zs.length (nums .i64 zs) ∧ Below w.heap.size w w' := by
  go_enter Tryz.func24, Tryz.ntmps24
  go_wp2_with (at_builtin; refine wpList_app et_i64s _ rfl (.tmp 3) (.tmp 4) rfl w.heap.size _ 0 [] rfl (own_empty w 2 1) A zs.length c (nums .i64 zs) rfl (hA.alloc _) (by rw [nums_length]; omega) (nums_cell _ _) (by omega) (by unfold maxLen; omega) (by simp) ?_)
  intro A' c' w1 hown hb _ _
  have hb1 := ((Below.refl _ w).alloc (Nat.le_refl _) (.cells #[] 2)).trans hb
  have Hown := Lib.hid hown; have Hb1 := Lib.hid hb1; clear hown hb hb1
  go_wp2
  go_ret
  exact ⟨_, _, rfl, Hown.out, Hb1.out⟩
end Go.Proofs.YtfiojofcafjfeaaGreat
namespace Go.Proofs.YtfiojofcafjfeaaGreat
open Go.RowKit

theorem size_any (n : Int) (w : World) : Calls Tryz.prog 107 #[.int .i64 n] w fun e w' => e = .returned (.bool (okB n)) ∧ w = w' := by
  by_cases h1 : n < 1
  · go_enter Tryz.func107, Tryz.ntmps107
    go_wp2
    go_ret
    exact ⟨ret_bool (by unfold okB; simp; omega), rfl⟩
  · by_cases h2 : 1048576 < n
    · go_enter Tryz.func107, Tryz.ntmps107
      go_wp2
      go_ret
      exact ⟨ret_bool (by unfold okB; simp; omega), rfl⟩
    · go_enter Tryz.func107, Tryz.ntmps107
      go_wp2
      go_ret
      exact ⟨ret_bool (by unfold okB; simp; omega), rfl⟩

/-- What shape.New answers, with the code. -/
def SnewC (sz : List Int) (w : World) (e : Ending) (w' : World) : Prop := Below w.heap.size w w' ∧ ((GoodSz sz ∧ ∃ b, e = .returned (.tuple #[.pointer (some ⟨b, 0, none⟩), .int .i64 0]) ∧ ShapeAt 138 w' b sz ∧ w.heap.size ≤ b) ∨ (¬ GoodSz sz ∧ e = .returned (.tuple #[.pointer none, .int .i64 (szCode sz)])))
def SnewCT (sz : List Int) (w : World) (e : Ending) (w' : World) : Prop := Below w.heap.size w w' ∧ ((GoodSz sz ∧ ∃ b, e = .returned (.tuple #[.pointer (some ⟨b, 0, none⟩), .int .i64 0]) ∧ ShapeAt 138 (topW w.heap.size w') b sz ∧ w.heap.size ≤ b) ∨ (¬ GoodSz sz ∧ e = .returned (.tuple #[.pointer none, .int .i64 (szCode sz)])))
theorem snew_codeT (A : Option Addr) (sz : List Int) (c : Nat) (w : World) (hA : Rd w A (nums .i64 sz)) (hc : sz.length ≤ c) (hm : c ≤ 9223372036854775807) :
    Calls Tryz.prog 46 #[.slice A sz.length c] w (SnewCT sz w) := by
  by_cases h1 : 2 ≤ sz.length ∧ sz.length ≤ 16
  · by_cases h2 : ∀ k, k < sz.length → 1 ≤ nth sz k ∧ nth sz k ≤ 1048576
    · refine (snew_rightT A sz c w hA hc hm ⟨h1, h2⟩).mono fun e w' ⟨hb, h⟩ => ⟨hb, ?_⟩
      rcases h with ⟨h, he⟩ | ⟨h, b, he, hs, hz⟩
      · have hg : ¬ GoodSz sz := fun hg => by have := hg.2; omega
        exact .inr ⟨hg, by rw [szCode_long hg ⟨h1, h2⟩]; exact he⟩
      · exact .inl ⟨⟨⟨h1, h2⟩, h⟩, b, he, hs, hz⟩
    · refine (snew_wrong A sz c w hA hc hm h1 h2).mono fun e w' ⟨he, hw⟩ => ?_
      subst hw
      exact ⟨Below.refl _ _, .inr ⟨fun hg => h2 hg.1.2, by rw [szCode_wrong (fun hr => h2 hr.2)]; exact he⟩⟩
  · refine (snew_short A sz c w hc hm h1).mono fun e w' ⟨he, hw⟩ => ?_
    subst hw
    exact ⟨Below.refl _ _, .inr ⟨fun hg => h1 hg.1.1, by rw [szCode_wrong (fun hr => h1 hr.1)]; exact he⟩⟩
theorem snew_code (A : Option Addr) (sz : List Int) (c : Nat) (w : World) (hA : Rd w A (nums .i64 sz)) (hc : sz.length ≤ c) (hm : c ≤ 9223372036854775807) :
    Calls Tryz.prog 46 #[.slice A sz.length c] w (SnewC sz w) := by
  refine (snew_codeT A sz c w hA hc hm).mono ?_
  rintro e w' ⟨hb, ⟨hg, b, he, hs, hz⟩ | h⟩
  · exact ⟨hb, .inl ⟨hg, b, he, top_shape hs (Agr.refl _ _), hz⟩⟩
  · exact ⟨hb, .inr h⟩

/-- A configuration as a value. -/
abbrev cfgVals (A : Option Addr) (c : Nat) (k : Cfg) : Array Value := #[.slice A k.sizes.length c, .int .i64 k.shift, .int .i64 k.rate, .int .i64 k.mom, .int .i64 k.workers, .int .i64 k.batch, .int .i64 k.micros, .int .i64 k.steps, .int .i64 k.bucket, .int .i64 k.chunk, .int .i64 k.window, .int .i64 k.cap]
/-- A configuration that is read. -/
structure CfgRd (w : World) (A : Option Addr) (c : Nat) (k : Cfg) : Prop where
  hc : k.sizes.length ≤ c
  hm : c ≤ 9223372036854775807
  hl : k.sizes.length ≤ 17592186043904
  hr : Rd w A (nums .i64 k.sizes)
theorem CfgRd.below {w w' : World} {A : Option Addr} {c : Nat} {k : Cfg} (h : CfgRd w A c k) (hb : Below w.heap.size w w') : CfgRd w' A c k := ⟨h.hc, h.hm, h.hl, h.hr.below hb⟩

set_option maxRecDepth 100000 in
set_option maxHeartbeats 4000000 in
theorem check_any (A : Option Addr) (c : Nat) (k : Cfg) (w : World) (h : CfgRd w A c k) :
    Calls Tryz.prog 71 #[.agg (cfgVals A c k)] w fun e w' => e = .returned (.int .i64 (cfgCode k)) ∧ Below w.heap.size w w' := by
  have hsn := fun w' (q : Below w.heap.size w w') => snew_code A k.sizes c w' (h.hr.below q) h.hc h.hm
  have f6 := @cfg_6 k; have f9 := @cfg_9 k; have fs := @cfg_s k; have f2 := @cfg_2 k; have f7 := @cfg_7 k; have f0 := @cfg_0 k
  unfold wkB shB numsB baB stepsB at *
  obtain ⟨code, hcode⟩ : ∃ code, cfgCode k = code := ⟨_, rfl⟩
  rw [hcode] at f6 f9 fs f2 f7 f0 ⊢
  clear hcode h
  obtain ⟨sz, sh, ra, mo, wk, ba, mi, st, bu, ch, wi, ca⟩ := k
  dsimp only [cfgVals] at *
  obtain ⟨L, hL⟩ : ∃ L, sz.length = L := ⟨_, rfl⟩
  rw [hL] at hsn ⊢
  have Hsn := Lib.hid hsn; have F6 := Lib.hid f6; have F9 := Lib.hid f9; have Fs := Lib.hid fs; have F2 := Lib.hid f2; have F7 := Lib.hid f7; have F0 := Lib.hid f0
  clear hsn f6 f9 fs f2 f7 f0 hL
  go_enter Tryz.func71, Tryz.ntmps71
  go_wp2_with fail
  have hz := heap_alloc_new w (.cells #[.slice A L c, .int .i64 sh, .int .i64 ra, .int .i64 mo, .int .i64 wk, .int .i64 ba, .int .i64 mi, .int .i64 st, .int .i64 bu, .int .i64 ch, .int .i64 wi, .int .i64 ca] 24)
  have hB := (Below.refl _ w).alloc (Nat.le_refl _) (.cells #[.slice A L c, .int .i64 sh, .int .i64 ra, .int .i64 mo, .int .i64 wk, .int .i64 ba, .int .i64 mi, .int .i64 st, .int .i64 bu, .int .i64 ch, .int .i64 wi, .int .i64 ca] 24)
  refine (Hsn.out _ hB).mono ?_
  rintro e w1 ⟨hb1, hs⟩
  have hz1 := (hb1.block _ (lt_of_block hz)).trans hz
  have HB := Lib.hid (hB.trans (hb1.mono hB.size))
  have z0 := cell_of_row w1 _ 0 _ _ _ hz1
  have z1 := cell_of_row w1 _ 1 _ _ _ hz1
  have z2 := cell_of_row w1 _ 2 _ _ _ hz1
  have z3 := cell_of_row w1 _ 3 _ _ _ hz1
  have z4 := cell_of_row w1 _ 4 _ _ _ hz1
  have z5 := cell_of_row w1 _ 5 _ _ _ hz1
  have z6 := cell_of_row w1 _ 6 _ _ _ hz1
  have z7 := cell_of_row w1 _ 7 _ _ _ hz1
  have z8 := cell_of_row w1 _ 8 _ _ _ hz1
  have z9 := cell_of_row w1 _ 9 _ _ _ hz1
  have z10 := cell_of_row w1 _ 10 _ _ _ hz1
  have z11 := cell_of_row w1 _ 11 _ _ _ hz1
  have zf := fun j => frozen_of_row w1 _ j _ _ hz1
  clear hz hB hb1 hz1
  -- the sizes' code
  obtain ⟨p, sc, rfl, hsc⟩ : ∃ p sc, e = .returned (.tuple #[.pointer p, .int .i64 sc]) ∧ szCode sz = sc := by
    rcases hs with ⟨hg, b, rfl, _⟩ | ⟨hg, rfl⟩
    · exact ⟨_, 0, rfl, szCode_good hg⟩
    · exact ⟨_, _, rfl, rfl⟩
  have Hsc := Lib.hid hsc
  clear hs hsc
  by_cases h1 : wk < 1
  · go_wp2_with fail
    go_ret
    exact ⟨ret_int (F6.out (by rw [decide_eq_false_iff_not]; omega)).symm, HB.out⟩
  by_cases h1' : 64 < wk
  · go_wp2_with fail
    go_ret
    exact ⟨ret_int (F6.out (by rw [decide_eq_false_iff_not]; omega)).symm, HB.out⟩
  have G1 := Lib.hid (show decide (1 ≤ wk ∧ wk ≤ 64) = true by rw [decide_eq_true_eq]; omega)
  by_cases h2 : sh < 1
  · go_wp2_with fail
    go_ret
    exact ⟨ret_int (F9.out G1.out (by rw [decide_eq_false_iff_not]; omega)).symm, HB.out⟩
  by_cases h2' : 62 < sh
  · go_wp2_with fail
    go_ret
    exact ⟨ret_int (F9.out G1.out (by rw [decide_eq_false_iff_not]; omega)).symm, HB.out⟩
  have G2 := Lib.hid (show decide (1 ≤ sh ∧ sh ≤ 62) = true by rw [decide_eq_true_eq]; omega)
  by_cases h3 : sc ≠ 0
  · have hq : (sc != 0) = true := by rw [bne_iff_ne]; exact h3
    have H3 := Lib.hid h3; clear h3
    go_wp2_with fail
    go_ret
    exact ⟨ret_int (by rw [Fs.out G1.out G2.out (by rw [Hsc.out]; exact H3.out)]; exact Hsc.out.symm), HB.out⟩
  obtain rfl : sc = 0 := by omega
  clear h3
  go_wp2_with fail
  refine (size_any mi _).mono ?_
  rintro e w' ⟨rfl, rfl⟩
  obtain ⟨b0, hb0⟩ : ∃ b, okB mi = b := ⟨_, rfl⟩
  have O0 := Lib.hid hb0
  rw [hb0]
  clear hb0
  rcases bool_ft b0 with rfl | rfl
  · go_wp2_with fail
    go_ret
    exact ⟨ret_int (F2.out G1.out G2.out Hsc.out (by simp [O0.out])).symm, HB.out⟩
  go_wp2_with fail
  refine (size_any bu _).mono ?_
  rintro e w' ⟨rfl, rfl⟩
  obtain ⟨b1, hb1⟩ : ∃ b, okB bu = b := ⟨_, rfl⟩
  have O1 := Lib.hid hb1
  rw [hb1]
  clear hb1
  rcases bool_ft b1 with rfl | rfl
  · go_wp2_with fail
    go_ret
    exact ⟨ret_int (F2.out G1.out G2.out Hsc.out (by simp [O0.out, O1.out])).symm, HB.out⟩
  go_wp2_with fail
  refine (size_any ch _).mono ?_
  rintro e w' ⟨rfl, rfl⟩
  obtain ⟨b2, hb2⟩ : ∃ b, okB ch = b := ⟨_, rfl⟩
  have O2 := Lib.hid hb2
  rw [hb2]
  clear hb2
  rcases bool_ft b2 with rfl | rfl
  · go_wp2_with fail
    go_ret
    exact ⟨ret_int (F2.out G1.out G2.out Hsc.out (by simp [O0.out, O1.out, O2.out])).symm, HB.out⟩
  go_wp2_with fail
  refine (size_any wi _).mono ?_
  rintro e w' ⟨rfl, rfl⟩
  obtain ⟨b3, hb3⟩ : ∃ b, okB wi = b := ⟨_, rfl⟩
  have O3 := Lib.hid hb3
  rw [hb3]
  clear hb3
  rcases bool_ft b3 with rfl | rfl
  · go_wp2_with fail
    go_ret
    exact ⟨ret_int (F2.out G1.out G2.out Hsc.out (by simp [O0.out, O1.out, O2.out, O3.out])).symm, HB.out⟩
  go_wp2_with fail
  refine (size_any ca _).mono ?_
  rintro e w' ⟨rfl, rfl⟩
  obtain ⟨b4, hb4⟩ : ∃ b, okB ca = b := ⟨_, rfl⟩
  have O4 := Lib.hid hb4
  rw [hb4]
  clear hb4
  rcases bool_ft b4 with rfl | rfl
  · go_wp2_with fail
    go_ret
    exact ⟨ret_int (F2.out G1.out G2.out Hsc.out (by simp [O0.out, O1.out, O2.out, O3.out, O4.out])).symm, HB.out⟩
  by_cases h4 : st = 0
  · have hq : (st != 0) = false := by rw [h4]; rfl
    have G4 := Lib.hid (show (okB mi && okB bu && okB ch && okB wi && okB ca && decide (0 ≤ st ∧ st ≤ 1048576)) = true by rw [O0.out, O1.out, O2.out, O3.out, O4.out]; simp; omega)
    clear h4
    by_cases h5 : ba < wk
    · go_wp2_with fail
      go_ret
      exact ⟨ret_int (F7.out G1.out G2.out Hsc.out G4.out (by rw [decide_eq_false_iff_not]; omega)).symm, HB.out⟩
    by_cases h5' : 1048576 < ba
    · go_wp2_with fail
      go_ret
      exact ⟨ret_int (F7.out G1.out G2.out Hsc.out G4.out (by rw [decide_eq_false_iff_not]; omega)).symm, HB.out⟩
    go_wp2_with fail
    go_ret
    exact ⟨ret_int (F0.out G1.out G2.out Hsc.out G4.out (by rw [decide_eq_true_eq]; omega)).symm, HB.out⟩
  · have hq : (st != 0) = true := by rw [bne_iff_ne]; exact h4
    have H4 := Lib.hid h4; clear h4
    go_wp2_with fail
    refine (size_any st _).mono ?_
    rintro e w' ⟨rfl, rfl⟩
    obtain ⟨b5, hb5⟩ : ∃ b, okB st = b := ⟨_, rfl⟩
    have O5 := Lib.hid hb5
    rw [hb5]
    clear hb5
    rcases bool_ft b5 with rfl | rfl
    · go_wp2_with fail
      go_ret
      exact ⟨ret_int (F2.out G1.out G2.out Hsc.out (by rw [O0.out, O1.out, O2.out, O3.out, O4.out]; have := okB_false O5.out; have := H4.out; simp; omega)).symm, HB.out⟩
    have G4 := Lib.hid (show (okB mi && okB bu && okB ch && okB wi && okB ca && decide (0 ≤ st ∧ st ≤ 1048576)) = true by rw [O0.out, O1.out, O2.out, O3.out, O4.out]; have := okB_true O5.out; simp; omega)
    by_cases h5 : ba < wk
    · go_wp2_with fail
      go_ret
      exact ⟨ret_int (F7.out G1.out G2.out Hsc.out G4.out (by rw [decide_eq_false_iff_not]; omega)).symm, HB.out⟩
    by_cases h5' : 1048576 < ba
    · go_wp2_with fail
      go_ret
      exact ⟨ret_int (F7.out G1.out G2.out Hsc.out G4.out (by rw [decide_eq_false_iff_not]; omega)).symm, HB.out⟩
    go_wp2_with fail
    go_ret
    exact ⟨ret_int (F0.out G1.out G2.out Hsc.out G4.out (by rw [decide_eq_true_eq]; omega)).symm, HB.out⟩
end Go.Proofs.YtfiojofcafjfeaaGreat
namespace Go.Proofs.YtfiojofcafjfeaaGreat
open Go.RowKit

theorem pneed_any (n : Nat) (w : World) (hn : 1 ≤ n) (hn2 : n ≤ 1048576) : Calls Tryz.prog 111 #[.int .i64 n] w fun e w' => e = .returned (.int .i64 ((n - 1 : Nat) : Int)) ∧ w = w' := by
  have h1 : (0 : Int) ≤ (n : Int) - 1 := by omega
  go_enter Tryz.func111, Tryz.ntmps111
  go_wp2
  all_goals
    go_ret
    exact ⟨ret_int (by omega), rfl⟩

set_option maxRecDepth 100000 in
set_option maxHeartbeats 1000000 in
theorem epochs_any (A : Option Addr) (c n : Nat) (k : Cfg) (w : World) (h : CfgRd w A c k) (hg : GoodCfg k) (hn : k.batch ≤ n ∧ (n : Int) ≤ 1048576) :
    Calls Tryz.prog 110 #[.agg (cfgVals A c k), .int .i64 n] w fun e w' => e = .returned (.int .i64 (epN n k.batch.toNat k.steps.toNat : Int)) ∧ Below w.heap.size w w' := by
  have hck := fun w' (q : Below w.heap.size w w') => check_any A c k w' (h.below q)
  rw [cfg_good.2 hg] at hck
  have g1 := hg.w; have g2 := hg.ba; have g3 := hg.st
  clear h hg
  obtain ⟨sz, sh, ra, mo, wk, ba, mi, st, bu, ch, wi, ca⟩ := k
  dsimp only [cfgVals] at *
  obtain ⟨bt, rfl⟩ : ∃ bt : Nat, ba = bt := ⟨ba.toNat, by omega⟩
  obtain ⟨sn, rfl⟩ : ∃ sn : Nat, st = sn := ⟨st.toNat, by omega⟩
  rw [Int.toNat_natCast, Int.toNat_natCast]
  obtain ⟨L, hL⟩ : ∃ L, sz.length = L := ⟨_, rfl⟩
  rw [hL] at hck ⊢
  obtain ⟨per, hper⟩ : ∃ per, n / bt = per := ⟨_, rfl⟩
  have hper1 : 1 ≤ per := by rw [← hper]; exact Nat.div_pos (by omega) (by omega)
  have hper2 : per ≤ n := by rw [← hper]; exact Nat.div_le_self _ _
  have hE : epN n bt sn = (sn + per - 1) / per := by unfold epN; rw [hper, cntQ_eq _ _ hper1]
  rw [hE]
  have hEl : (sn + per - 1) / per ≤ sn + per - 1 := Nat.div_le_self _ _
  obtain ⟨E, hE2⟩ : ∃ E, (sn + per - 1) / per = E := ⟨_, rfl⟩
  rw [hE2] at hEl ⊢
  have hq1 : (n : Int).tdiv (bt : Int) = (per : Int) := by rw [← hper]; rfl
  have hq1' : (n : Int) / (bt : Int) = (per : Int) := by rw [← hper]; rfl
  have hcast : (sn : Int) + per - 1 = ((sn + per - 1 : Nat) : Int) := by omega
  have hq2 : ((sn : Int) + per - 1).tdiv (per : Int) = (E : Int) := by rw [hcast, ← hE2]; rfl
  have hq2' : ((sn : Int) + per - 1) / (per : Int) = (E : Int) := by rw [hcast, ← hE2]; rfl
  have hq3 : ¬ (bt = 0) := by omega
  have hq4 : ¬ (per = 0) := by omega
  have hq5 : ¬ ((n : Int) < bt) := by omega
  have hq6 : ¬ ((1048576 : Int) < n) := by omega
  have Hck := Lib.hid hck
  clear hck hL hper hE hE2 hcast
  go_enter Tryz.func110, Tryz.ntmps110
  go_wp2_with fail
  have hz := heap_alloc_new w (.cells #[.slice A L c, .int .i64 sh, .int .i64 ra, .int .i64 mo, .int .i64 wk, .int .i64 bt, .int .i64 mi, .int .i64 sn, .int .i64 bu, .int .i64 ch, .int .i64 wi, .int .i64 ca] 24)
  have hB := (Below.refl _ w).alloc (Nat.le_refl _) (.cells #[.slice A L c, .int .i64 sh, .int .i64 ra, .int .i64 mo, .int .i64 wk, .int .i64 bt, .int .i64 mi, .int .i64 sn, .int .i64 bu, .int .i64 ch, .int .i64 wi, .int .i64 ca] 24)
  refine (Hck.out _ hB).mono ?_
  rintro e w1 ⟨rfl, hb1⟩
  have hz1 := (hb1.block _ (lt_of_block hz)).trans hz
  have HB := Lib.hid (hB.trans (hb1.mono hB.size))
  have z0 := cell_of_row w1 _ 0 _ _ _ hz1
  have z1 := cell_of_row w1 _ 1 _ _ _ hz1
  have z2 := cell_of_row w1 _ 2 _ _ _ hz1
  have z3 := cell_of_row w1 _ 3 _ _ _ hz1
  have z4 := cell_of_row w1 _ 4 _ _ _ hz1
  have z5 := cell_of_row w1 _ 5 _ _ _ hz1
  have z6 := cell_of_row w1 _ 6 _ _ _ hz1
  have z7 := cell_of_row w1 _ 7 _ _ _ hz1
  have z8 := cell_of_row w1 _ 8 _ _ _ hz1
  have z9 := cell_of_row w1 _ 9 _ _ _ hz1
  have z10 := cell_of_row w1 _ 10 _ _ _ hz1
  have z11 := cell_of_row w1 _ 11 _ _ _ hz1
  have zf := fun j => frozen_of_row w1 _ j _ _ hz1
  clear hz hB hb1 hz1
  go_wp2_with fail
  go_ret
  exact ⟨rfl, HB.out⟩

set_option maxRecDepth 100000 in
theorem need_any (A : Option Addr) (c n : Nat) (k : Cfg) (w : World) (h : CfgRd w A c k) (hg : GoodCfg k) (hn : k.batch ≤ n ∧ (n : Int) ≤ 1048576) :
    Calls Tryz.prog 74 #[.agg (cfgVals A c k), .int .i64 n] w fun e w' => e = .returned (.int .i64 (needN n k.batch.toNat k.steps.toNat : Int)) ∧ Below w.heap.size w w' := by
  have hep := fun w' (q : Below w.heap.size w w') => epochs_any A c n k w' (h.below q) hg hn
  have g1 := hg.w; have g2 := hg.ba; have g3 := hg.st
  have hpn := fun w' => pneed_any n w' (by omega) (by omega)
  have hle := needN_le (n := n) (b := k.batch.toNat) (st := k.steps.toNat) (by omega) (by omega)
  unfold needN at hle ⊢
  clear h hg
  obtain ⟨sz, sh, ra, mo, wk, ba, mi, st, bu, ch, wi, ca⟩ := k
  dsimp only [cfgVals] at *
  obtain ⟨L, hL⟩ : ∃ L, sz.length = L := ⟨_, rfl⟩
  rw [hL] at hep ⊢
  obtain ⟨E, hE⟩ : ∃ E, epN n ba.toNat st.toNat = E := ⟨_, rfl⟩
  obtain ⟨m, hm⟩ : ∃ m, n - 1 = m := ⟨_, rfl⟩
  rw [hE] at hep hle ⊢
  rw [hm] at hpn hle ⊢
  obtain ⟨y, hy⟩ : ∃ y, E * m = y := ⟨_, rfl⟩
  rw [hy] at hle ⊢
  have hmul : (E : Int) * (m : Int) = (y : Int) := by rw [← hy]; push_cast; rfl
  have Hep := Lib.hid hep; have Hpn := Lib.hid hpn
  clear hep hpn hL hE hm hy
  go_enter Tryz.func74, Tryz.ntmps74
  go_wp2_with fail
  have hz := heap_alloc_new w (.cells #[.slice A L c, .int .i64 sh, .int .i64 ra, .int .i64 mo, .int .i64 wk, .int .i64 ba, .int .i64 mi, .int .i64 st, .int .i64 bu, .int .i64 ch, .int .i64 wi, .int .i64 ca] 24)
  have hB := (Below.refl _ w).alloc (Nat.le_refl _) (.cells #[.slice A L c, .int .i64 sh, .int .i64 ra, .int .i64 mo, .int .i64 wk, .int .i64 ba, .int .i64 mi, .int .i64 st, .int .i64 bu, .int .i64 ch, .int .i64 wi, .int .i64 ca] 24)
  refine (Hep.out _ hB).mono ?_
  rintro e w1 ⟨rfl, hb1⟩
  have HB := Lib.hid (hB.trans (hb1.mono hB.size))
  clear hz hB hb1
  go_wp2_with fail
  refine (Hpn.out _).mono ?_
  rintro e w2 ⟨rfl, rfl⟩
  go_wp2_with fail
  go_ret
  exact ⟨rfl, HB.out⟩
end Go.Proofs.YtfiojofcafjfeaaGreat
