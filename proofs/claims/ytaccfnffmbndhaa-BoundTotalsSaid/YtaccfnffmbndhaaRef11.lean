/- The reference's check of a configuration. -/
import Derived.Test.YtaccfnffmbndhaaConf
import Derived.Test.YtaccfnffmbndhaaRef08
set_option linter.unusedSimpArgs false
set_option linter.unusedVariables false
namespace Go.Proofs.Ytaccfnffmbndhaa
open Go.RowKit

def btB (x lo hi : Int) : Bool := decide (lo ≤ x ∧ x ≤ hi)
theorem btw_any (x lo hi : Int) (w : World) : Calls Try.prog 23 #[.int .i64 x, .int .i64 lo, .int .i64 hi] w fun e w' => e = .returned (.bool (btB x lo hi)) ∧ w = w' := by
  by_cases h1 : lo ≤ x
  · by_cases h2 : x ≤ hi
    · go_enter Try.func23, Try.ntmps23
      go_wp2
      go_ret
      exact ⟨ret_bool (by unfold btB; simp [h1, h2]), rfl⟩
    · go_enter Try.func23, Try.ntmps23
      go_wp2
      go_ret
      exact ⟨ret_bool (by unfold btB; simp; omega), rfl⟩
  · go_enter Try.func23, Try.ntmps23
    go_wp2
    go_ret
    exact ⟨ret_bool (by unfold btB; simp; omega), rfl⟩
theorem rsz_code (A : Option Addr) (sz : List Int) (c : Nat) (w : World) (hA : Rd w A (nums .i64 sz)) (hl : sz.length ≤ 17592186043904) :
    Calls Try.prog 24 #[.slice A sz.length c] w fun e w' => e = .returned (.int .i64 (szCode sz)) ∧ ∃ n, w' = w.drewN n := by
  by_cases h : 2 ≤ sz.length ∧ sz.length ≤ 16
  · refine (rcheck_long A sz c w hA h).mono fun e w' ⟨h1, h2⟩ => ⟨?_, h2⟩
    rcases h1 with ⟨hR, rfl⟩ | ⟨hR, rfl⟩
    · refine ret_int ?_
      unfold codeN
      by_cases hc : 1048576 < cntN sz (sz.length - 1)
      · rw [if_pos hc, szCode_long (fun hg => by have := hg.2; omega) hR]
      · rw [if_neg hc, szCode_good ⟨hR, by omega⟩]
    · exact ret_int (szCode_wrong hR).symm
  · exact (rcheck_short A sz c w hl h).mono fun e w' ⟨h1, h2⟩ => ⟨by rw [h1, szCode_wrong (fun hr => h hr.1)], 0, h2.symm⟩

theorem sixB_bad (a b c d e f : Int) {g : Bool} {l : List Int} (hl : [a, b, c, d, e, f] = l) {k : Nat} (hk : k < 5) (h : okB (nth l k) = false) : (okB a && okB b && okB c && okB d && okB e && g) = false := by
  subst hl
  match k, hk with
  | 0, _ => simp only [show nth [a, b, c, d, e, f] 0 = a from rfl] at h; simp [h]
  | 1, _ => simp only [show nth [a, b, c, d, e, f] 1 = b from rfl] at h; simp [h]
  | 2, _ => simp only [show nth [a, b, c, d, e, f] 2 = c from rfl] at h; simp [h]
  | 3, _ => simp only [show nth [a, b, c, d, e, f] 3 = d from rfl] at h; simp [h]
  | 4, _ => simp only [show nth [a, b, c, d, e, f] 4 = e from rfl] at h; simp [h]
theorem sixB_good (a b c d e f : Int) (g : Bool) {l : List Int} (hl : [a, b, c, d, e, f] = l) (h : ∀ j, j < 5 → okB (nth l j) = true) (hg : g = true) : (okB a && okB b && okB c && okB d && okB e && g) = true := by
  subst hl
  have h0 : okB a = true := h 0 (by omega)
  have h1 : okB b = true := h 1 (by omega)
  have h2 : okB c = true := h 2 (by omega)
  have h3 : okB d = true := h 3 (by omega)
  have h4 : okB e = true := h 4 (by omega)
  simp [h0, h1, h2, h3, h4, hg]

set_option maxRecDepth 100000 in
set_option maxHeartbeats 4000000 in
theorem rcfg_any (A : Option Addr) (c : Nat) (k : Cfg) (w : World) (h : CfgRd w A c k) :
    Calls Try.prog 14 #[.agg (cfgVals A c k)] w fun e w' => e = .returned (.int .i64 (cfgCode k)) ∧ Below w.heap.size w w' := by
  have hsz := fun w' (q : Below w.heap.size w w') => rsz_code A k.sizes c w' (h.hr.below q) h.hl
  have f6 := @cfg_6 k; have f9 := @cfg_9 k; have fs := @cfg_s k; have f2 := @cfg_2 k; have f7 := @cfg_7 k; have f0 := @cfg_0 k
  unfold wkB shB numsB baB stepsB at *
  obtain ⟨code, hcode⟩ : ∃ code, cfgCode k = code := ⟨_, rfl⟩
  rw [hcode] at f6 f9 fs f2 f7 f0 ⊢
  clear hcode h
  obtain ⟨sz, sh, ra, mo, wk, ba, mi, st, bu, ch, wi, ca⟩ := k
  dsimp only [cfgVals] at *
  obtain ⟨L, hL⟩ : ∃ L, sz.length = L := ⟨_, rfl⟩
  obtain ⟨sc, hsc⟩ : ∃ sc, szCode sz = sc := ⟨_, rfl⟩
  rw [hL, hsc] at hsz
  rw [hsc] at fs f2 f7 f0
  rw [hL] at ⊢
  have Hsz := Lib.hid hsz; have F6 := Lib.hid f6; have F9 := Lib.hid f9; have Fs := Lib.hid fs; have F2 := Lib.hid f2; have F7 := Lib.hid f7; have F0 := Lib.hid f0
  clear hsz f6 f9 fs f2 f7 f0 hL hsc
  go_enter Try.func14, Try.ntmps14
  go_wp2_with fail
  have hz := heap_alloc_new w (.cells #[.slice A L c, .int .i64 sh, .int .i64 ra, .int .i64 mo, .int .i64 wk, .int .i64 ba, .int .i64 mi, .int .i64 st, .int .i64 bu, .int .i64 ch, .int .i64 wi, .int .i64 ca] 24)
  have hB := (Below.refl _ w).alloc (Nat.le_refl _) (.cells #[.slice A L c, .int .i64 sh, .int .i64 ra, .int .i64 mo, .int .i64 wk, .int .i64 ba, .int .i64 mi, .int .i64 st, .int .i64 bu, .int .i64 ch, .int .i64 wi, .int .i64 ca] 24)
  obtain ⟨W0, hW0⟩ : ∃ W0, W0 = w.alloc (.cells #[.slice A L c, .int .i64 sh, .int .i64 ra, .int .i64 mo, .int .i64 wk, .int .i64 ba, .int .i64 mi, .int .i64 st, .int .i64 bu, .int .i64 ch, .int .i64 wi, .int .i64 ca] 24) := ⟨_, rfl⟩
  rw [← hW0] at hz hB ⊢
  clear hW0
  obtain ⟨⟨z0, z1, z2, z3, z4, z5, z6, z7, z8, z9, z10, z11⟩, zf⟩ := bx12 hz
  have HB := Lib.hid hB; have HZ := Lib.hid hz
  clear hB hz
  refine (btw_any wk 1 64 _).mono ?_
  rintro e w' ⟨rfl, rfl⟩
  obtain ⟨b1, hb1⟩ : ∃ b1, btB wk 1 64 = b1 := ⟨_, rfl⟩
  have G1 := Lib.hid (show decide (1 ≤ wk ∧ wk ≤ 64) = b1 from hb1)
  rw [hb1]
  clear hb1
  rcases bool_ft b1 with rfl | rfl
  · go_wp2_with fail
    go_ret
    exact ⟨ret_int (F6.out G1.out).symm, HB.out⟩
  go_wp2_with fail
  refine (btw_any sh 1 62 _).mono ?_
  rintro e w' ⟨rfl, rfl⟩
  obtain ⟨b2, hb2⟩ : ∃ b2, btB sh 1 62 = b2 := ⟨_, rfl⟩
  have G2 := Lib.hid (show decide (1 ≤ sh ∧ sh ≤ 62) = b2 from hb2)
  rw [hb2]
  clear hb2
  rcases bool_ft b2 with rfl | rfl
  · go_wp2_with fail
    go_ret
    exact ⟨ret_int (F9.out G1.out G2.out).symm, HB.out⟩
  go_wp2_with fail
  refine (Hsz.out _ HB.out).mono ?_
  rintro e w' ⟨rfl, d, rfl⟩
  have hb1 := below_drewN HB.out d
  have hz1 : (W0.drewN d).heap[w.heap.size]? = some (.cells #[.slice A L c, .int .i64 sh, .int .i64 ra, .int .i64 mo, .int .i64 wk, .int .i64 ba, .int .i64 mi, .int .i64 st, .int .i64 bu, .int .i64 ch, .int .i64 wi, .int .i64 ca] 24 (0, 0)) := HZ.out
  generalize W0.drewN d = W1 at hb1 hz1 ⊢
  clear z0 z1 z2 z3 z4 z5 z6 z7 z8 z9 z10 z11 zf HB HZ
  obtain ⟨⟨z0, z1, z2, z3, z4, z5, z6, z7, z8, z9, z10, z11⟩, zf⟩ := bx12 hz1
  have HB := Lib.hid hb1; have HZ := Lib.hid hz1
  clear hb1 hz1
  by_cases h3 : sc ≠ 0
  · have hq : (sc != 0) = true := by rw [bne_iff_ne]; exact h3
    have H3 := Lib.hid h3; clear h3
    go_wp2_with fail
    go_ret
    exact ⟨ret_int (Fs.out G1.out G2.out H3.out).symm, HB.out⟩
  obtain rfl : sc = 0 := by omega
  clear h3
  have lz : w.heap.size < W1.heap.size := lt_of_block HZ.out
  by_cases h4 : st < 0
  · go_wp2_with fail
    go_ret
    exact ⟨ret_int (F2.out G1.out G2.out trivial (by rw [decide_eq_false (show ¬ (0 ≤ st ∧ st ≤ 1048576) by omega), Bool.and_false])).symm, HB.out.alloc HB.out.size _⟩
  by_cases h4' : 1048576 < st
  · go_wp2_with fail
    go_ret
    exact ⟨ret_int (F2.out G1.out G2.out trivial (by rw [decide_eq_false (show ¬ (0 ≤ st ∧ st ≤ 1048576) by omega), Bool.and_false])).symm, HB.out.alloc HB.out.size _⟩
  have GS := Lib.hid (show decide (0 ≤ st ∧ st ≤ 1048576) = true by rw [decide_eq_true_eq]; omega)
  have hrd := rd_newN W1 (nums .i64 [mi, bu, ch, wi, ca, st + 1]) 3 _ rfl
  have hzz := (Below.heap_alloc W1 (.cells (nums .i64 [mi, bu, ch, wi, ca, st + 1]).toArray 3) _ (lt_of_block HZ.out)).trans HZ.out
  have HRd := Lib.hid hrd; have HZz := Lib.hid hzz
  clear hrd hzz
  go_wp2_with fail
  clear z0 z1 z2 z3 z4 z5 z6 z7 z8 z9 z10 z11 zf
  have HB2 := Lib.hid (HB.out.alloc HB.out.size (.cells (nums .i64 [mi, bu, ch, wi, ca, st + 1]).toArray 3))
  obtain ⟨l, hl⟩ : ∃ l : List Int, [mi, bu, ch, wi, ca, st + 1] = l := ⟨_, rfl⟩
  have HL := Lib.hid hl
  change Code.wp _ _ _ _ (W1.alloc (.cells (nums .i64 [mi, bu, ch, wi, ca, st + 1]).toArray 3))
  rw [hl] at HRd HZz HB2 ⊢
  clear hl HB HZ lz
  obtain ⟨p, hp⟩ : ∃ p, W1.heap.size = p := ⟨_, rfl⟩
  rw [hp] at HRd ⊢
  generalize W1.alloc (.cells (nums .i64 l).toArray 3) = W2 at HRd HZz HB2 ⊢
  clear hp
  go_loopw [5] (fun i wr => ∃ k : Nat, k ≤ 5 ∧ i = .int .i64 k ∧ Hid (∀ j, j < k → okB (nth l j) = true) ∧ wr = W2) (fun i _ => 5 - (intOf i).toNat)
  case atStart => exact ⟨0, Nat.zero_le _, rfl, Lib.hid fun j hj => by omega, rfl⟩
  case round =>
    obtain ⟨k, hk, rfl, Hall, rfl⟩ := hrel
    by_cases hlt : k < 5
    · have hlen : k < l.length := by rw [← HL.out]; simp only [List.length_cons, List.length_nil]; omega
      obtain ⟨b', o, e1, hc⟩ := HRd.out.num hlen
      have hlti : (k : Int) < 5 := by omega
      injection e1 with e1; injection e1 with e1 e2 _; subst e1; subst e2
      obtain ⟨x, hx⟩ : ∃ x, nth l k = x := ⟨_, rfl⟩
      rw [hx, Nat.zero_add] at hc
      have Hx := Lib.hid hx
      clear hx hlen
      go_wp2_with fail
      refine (btw_any x 1 1048576 _).mono ?_
      rintro e w' ⟨rfl, rfl⟩
      obtain ⟨b3, hb3⟩ : ∃ b3, btB x 1 1048576 = b3 := ⟨_, rfl⟩
      have G3 := Lib.hid (show okB x = b3 from hb3)
      rw [hb3]
      clear hb3
      rcases bool_ft b3 with rfl | rfl
      · go_wp2_with fail
        go_ret
        exact ⟨ret_int (F2.out G1.out G2.out trivial (sixB_bad mi bu ch wi ca _ HL.out hlt (by rw [Hx.out]; exact G3.out))).symm, HB2.out⟩
      go_wp2_with fail
      go_roundw
      case rel => exact ⟨k + 1, by omega, by go_num, Lib.hid (p := ∀ j, j < k + 1 → okB (nth l j) = true) fun j hj => by
        rcases Nat.lt_or_ge j k with h | h
        · exact Hall.out j h
        · obtain rfl : j = k := by omega
          rw [Hx.out]; exact G3.out, trivial⟩
      case measure => simp [intOf]; omega
    · obtain rfl : k = 5 := by omega
      have hn := sixB_good mi bu ch wi ca _ (decide (0 ≤ st ∧ st ≤ 1048576)) HL.out Hall.out GS.out
      have Hn := Lib.hid hn; clear hn
      have hzz := HZz.out
      obtain ⟨⟨z0, z1, z2, z3, z4, z5, z6, z7, z8, z9, z10, z11⟩, zf⟩ := bx12 hzz
      clear hzz
      go_wp2_with fail
      refine (btw_any ba wk 1048576 _).mono ?_
      rintro e w' ⟨rfl, rfl⟩
      obtain ⟨b3, hb3⟩ : ∃ b3, btB ba wk 1048576 = b3 := ⟨_, rfl⟩
      have G3 := Lib.hid (show decide (wk ≤ ba ∧ ba ≤ 1048576) = b3 from hb3)
      rw [hb3]
      clear hb3
      rcases bool_ft b3 with rfl | rfl
      · go_wp2_with fail
        go_ret
        exact ⟨ret_int (F7.out G1.out G2.out trivial Hn.out G3.out).symm, HB2.out⟩
      go_wp2_with fail
      go_ret
      exact ⟨ret_int (F0.out G1.out G2.out trivial Hn.out G3.out).symm, HB2.out⟩
end Go.Proofs.Ytaccfnffmbndhaa
