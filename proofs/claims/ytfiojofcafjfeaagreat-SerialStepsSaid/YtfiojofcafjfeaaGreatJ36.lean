/- The reference's Shuffle. The reference's count of epochs. No condition. -/
import Derived.Test.YtfiojofcafjfeaaGreatJ35
import Derived.Test.YtfiojofcafjfeaaGreatJ15
import Derived.BigQuiet
import Derived.Deep.QuietTactic
set_option linter.unusedSimpArgs false
set_option linter.unusedVariables false
namespace Go.Proofs.YtfiojofcafjfeaaGreat
open Go.RowKit

theorem sh_b {q n : Nat} (h : q < n) (h2 : n ≤ 1048576) : (q : Int) ≤ 1048576 := by omega
theorem sh_m {q n k m : Nat} (h : n - 1 - k = q) (h1 : k < m) (h2 : m < n) : (q : Int) - 1 = (n : Int) - 1 - ((k + 1 : Nat) : Int) := by omega
theorem sh_t {q : Nat} (h : 0 < q) : ((q : Int) - 1).toNat < (q : Int).toNat := by omega
set_option maxRecDepth 100000 in
set_option maxHeartbeats 1600000 in
theorem rshuffle_any (n c i : Nat) (A : Option Addr) (l : List Int) (w : World) (hA : Rd w A (nums .u64 l)) (hn : 1 ≤ n) (hn2 : n ≤ 1048576) (hi : i + (n - 1) ≤ l.length) (hl : l.length ≤ 1048576) (hu : U64 l) :
    Calls Tryz.prog 104 #[.int .i64 n, .agg #[.slice A l.length c, .int .i64 i]] w fun e w' => ∃ v, e = .returned (.tuple #[.agg #[.slice A l.length c, .int .i64 ((i + (n - 1) : Nat) : Int)], v, .bool true]) ∧ w'.ownsRow w.heap.size 3 1 v n (nums .i64 (permN l n i)) ∧ Below w.heap.size w w' := by
  obtain ⟨m, hm⟩ : ∃ m, n - 1 = m := ⟨_, rfl⟩
  rw [hm] at hi ⊢
  have hpn : permN l n i = shufN n (drawN l n i) m := by unfold permN; rw [hm]
  rw [hpn]
  have hmn : m < n := by omega
  have hnm : n ≤ m + 1 := by omega
  have hnd := fun w' => rpneed_any n w' hn hn2
  rw [hm] at hnd
  clear hm hpn
  have hnx := fun k (hk : k < m) w' (q : Rd w' A (nums .u64 l)) => rnext_any c (i + k) (n - k) A l w' q (by omega) (by omega) hu (by omega) (by omega)
  obtain ⟨N, hN⟩ : ∃ N, l.length = N := ⟨_, rfl⟩
  rw [hN] at hi hl hnx ⊢
  have HA := Lib.hid hA; have Hnx := Lib.hid hnx; have Hnd := Lib.hid hnd; have HN := Lib.hid hN
  clear hA hnx hnd hu hN
  have hq1 : ¬ ((n : Int) < 0) := by omega
  have hq2 : ¬ ((1048576 : Int) < n) := by omega
  have hq3 : ¬ (((N : Int) - i) < m) := by omega
  go_enter Tryz.func104, Tryz.ntmps104
  go_wp2_with fail
  have hw1 : IntKind.i64.wrap ((N : Int) - i) = (N : Int) - i := IntWalk.i64_in _ (by omega)
  go_quiet ((go_at_call 70; refine Calls.quiet_of ((Hnd.out _).mono fun e w' ⟨he, hw⟩ => ⟨he, 0, hw.symm⟩)))
  clear hw1 hq1 hq2 hq3
  go_wp2_with fail
  rename_i h9 _ _
  clear h9
  have hz := (Below.heap_alloc (w.alloc (.cells #[.slice A N c, .int .i64 i] 182)) (.cells #[.slice none 0 0, .int .i64 0] 182) w.heap.size (by simp)).trans (heap_alloc_new w _)
  have hy := heap_alloc_new (w.alloc (.cells #[.slice A N c, .int .i64 i] 182)) (.cells #[.slice none 0 0, .int .i64 0] 182)
  rw [show (w.alloc (.cells #[.slice A N c, .int .i64 i] 182)).heap.size = w.heap.size + 1 by simp] at hy
  have hB : Below w.heap.size w ((w.alloc (.cells #[.slice A N c, .int .i64 i] 182)).alloc (.cells #[.slice none 0 0, .int .i64 0] 182)) := ((Below.refl _ w).alloc (Nat.le_refl _) _).alloc (by simp) _
  obtain ⟨W0, hW0⟩ : ∃ W0, W0 = ((w.alloc (.cells #[.slice A N c, .int .i64 i] 182)).alloc (.cells #[.slice none 0 0, .int .i64 0] 182)).drewN nq := ⟨_, rfl⟩
  have hz0 : W0.heap[w.heap.size]? = some (.cells #[.slice A N c, .int .i64 i] 182 (0, 0)) := by rw [hW0]; exact hz
  have hy0 : W0.heap[w.heap.size + 1]? = some (.cells #[.slice none 0 0, .int .i64 0] 182 (0, 0)) := by rw [hW0]; exact hy
  have hB0 : Below w.heap.size w W0 := by rw [hW0]; exact below_drewN hB _
  rw [← hW0]
  clear hW0 hz hy hB
  have hsz0 := hB0.size
  have ly0 := lt_of_block hy0
  have HZ0 := Lib.hid hz0; have HY0 := Lib.hid hy0; have HB0 := Lib.hid hB0
  clear hz0 hy0 hB0
  go_loopw [7, 8] (fun v x wr => ∃ k : Nat, k ≤ n ∧ x = .int .i64 k ∧ wr.ownsRow W0.heap.size 3 1 v k (nums .i64 (iota k)) ∧ Below W0.heap.size W0 wr) (fun _ x _ => n - (intOf x).toNat)
  case atStart => exact ⟨0, Nat.zero_le _, rfl, World.ownsRow_nil _ _ _ _, Below.refl _ _⟩
  case round =>
    obtain ⟨k, hk, rfl, hown, hb⟩ := hrel
    by_cases hlt : k < n
    · obtain ⟨Al, cl, rfl, _⟩ := own_form hown
      have Hown := Lib.hid hown; have Hb := Lib.hid hb; clear hown hb
      go_wp2_with (at_builtin; refine wpList_push et_ints _ rfl (.tmp 37) (.tmp 39) rfl W0.heap.size (.slice Al k cl) k _ rfl Hown.out [.int .i64 (k : Int)] rfl rfl (nums_cell .i64 [_]) (by omega) (by unfold maxLen; omega) Hb.out.size ?_)
      intro g6 c6 w6 ho6 hb6 hg6
      have hb6' := Hb.out.trans hb6
      have HO6 := Lib.hid ho6; have HB6 := Lib.hid hb6'
      clear ho6 hb6 hg6 hb6'
      go_wp2_with fail
      go_roundw
      case rel =>
        refine ⟨k + 1, by omega, by go_num, ?_, HB6.out⟩
        have : iota (k + 1) = iota k ++ [(k : Int)] := upTo_succ _ _
        rw [this, nums_append]; exact HO6.out
      case measure => simp [intOf]; omega
    · obtain rfl : n = k := by omega
      obtain ⟨g, c2, rfl, _⟩ := hown.form hn
      obtain ⟨W1, rfl⟩ : ∃ W1 : World, W1 = wr := ⟨_, rfl⟩
      have hz1 := (hb.block _ (by omega)).trans HZ0.out
      have hy1 := (hb.block _ ly0).trans HY0.out
      have hgl := hown.lt g rfl
      have hs1 := hb.size
      have HZ1 := Lib.hid hz1; have HY1 := Lib.hid hy1; have HB1 := Lib.hid (HB0.out.trans (hb.mono HB0.out.size)); have HO1 := Lib.hid hown
      clear hz1 hy1 hb hown
      go_wp2_with fail
      go_loopw [9] (fun x wr => ∃ k : Nat, k ≤ m ∧ x = .int .i64 ((n : Int) - 1 - k) ∧ wr.heap[w.heap.size]? = some (.cells #[.slice A N c, .int .i64 ((i + k : Nat) : Int)] 182 (0, 0)) ∧ wr.ownsRow W0.heap.size 3 1 (.slice (some ⟨g, 0, none⟩) n c2) n (nums .i64 (shufN n (drawN l n i) k)) ∧ Keep (fun j => j = w.heap.size ∨ j = g) W1 wr) (fun x _ => (intOf x).toNat)
      case atStart => exact ⟨0, Nat.zero_le _, by go_num, HZ1.out, HO1.out, Keep.refl _ _⟩
      case round =>
        obtain ⟨k, hk, rfl, hz, hown, hK⟩ := hrel
        by_cases hlt : k < m
        · obtain ⟨q, hq⟩ : ∃ q, n - 1 - k = q := ⟨_, rfl⟩
          have hqc : (n : Int) - 1 - k = (q : Int) := by omega
          have hq1 : 0 < q := by omega
          have hq2 : (0 : Int) < q := by omega
          have hAr : Rd wr A (nums .u64 l) := hK.rd (HA.out.below HB1.out) (fun a ha e => by
            obtain ⟨b, o, e2, hc⟩ := HA.out.num (show 0 < l.length by have := HN.out; omega)
            rw [ha] at e2; injection e2 with e2; subst e2
            have h5 : b < w.heap.size := lt_of_cell hc
            have h6 : b = w.heap.size ∨ b = g := e
            omega)
          have hnx := Hnx.out k hlt wr hAr
          rw [← drawN_int l (by omega), show ((n - k : Nat) : Int) = (q : Int) + 1 by omega] at hnx
          have hdl := drawN_lt l (n := n) (i := i) (k := k) (by omega)
          obtain ⟨dk, hdk⟩ : ∃ dk, drawN l n i k = dk := ⟨_, rfl⟩
          rw [hdk] at hnx hdl
          have Hgs := Lib.hid (Nat.lt_of_lt_of_le hgl.2 hK.size)
          have Hne3 := Lib.hid (show ¬ g = w.heap.size by omega)
          have hqn : q < n := by omega
          have hdn : dk < n := by omega
          have hdi : (dk : Int) < n := by omega
          have hqi : (q : Int) < n := by omega
          have hlz := lt_of_block hz
          have z0 := cell_of_row wr _ 0 _ _ _ hz
          have z1 := cell_of_row wr _ 1 _ _ _ hz
          have zf := fun j => frozen_of_row wr _ j _ _ hz
          simp only [Int.natCast_add, Int.cast_ofNat_Int] at hnx
          have Hnx2 := Lib.hid hnx; have Hdk := Lib.hid hdk; have HZ := Lib.hid hz; have HO := Lib.hid hown; have HK := Lib.hid hK; have Hq := Lib.hid hq
          rw [hqc]
          have hwq : wrap64 ((q : Int) + 1) = (q : Int) + 1 := by unfold wrap64; omega
          have Hqn := Lib.hid hqn; have Hdn := Lib.hid hdn; have Hdi := Lib.hid hdi; have Hqi := Lib.hid hqi
          clear hnx hdk hz hown hK hAr hq hqc hdl hqn hdn hdi hqi
          go_wp2_with fail
          with_reducible refine Hnx2.out.mono ?_
          rintro e w1 ⟨rfl, hb1⟩
          have hz1 := (hb1.block _ hlz).trans HZ.out
          have hO1 := own_below HO.out hb1
          have p1 := own_num hO1 Hqn.out
          have p2 := own_num hO1 Hdn.out
          have f1 := hO1.frozenAt q
          have f2 := hO1.frozenAt dk
          clear z0 z1 zf
          have z0 := cell_of_row w1 _ 0 _ _ _ hz1
          have z1 := cell_of_row w1 _ 1 _ _ _ hz1
          have zf := fun j => frozen_of_row w1 _ j _ _ hz1
          have hlz1 := lt_of_block hz1
          have hs1' := hb1.size
          have HZ1 := Lib.hid hz1; have HO2 := Lib.hid hO1; have Hb1 := Lib.hid hb1
          have Hz1s := Lib.hid hs1'
          clear hz1 hO1 hb1 p1 p2 f1 f2
          have Hgw1 := Lib.hid (Nat.lt_of_lt_of_le Hgs.out hs1')
          go_upto_region 13 with (fail)
          clear z0 z1 zf
          have e1 := heap_setCell_same w1 w.heap.size 0 _ _ (.slice A N c) HZ1.out
          have e2 := heap_setCell_same _ w.heap.size 1 _ _ (.int .i64 ((i : Int) + k + 1)) e1
          have hk5 : Keep (fun j => j = w.heap.size ∨ j = g) w1 (((w1.setCell ⟨w.heap.size, 0, none⟩ (.slice A N c)).setCell ⟨w.heap.size, 1, none⟩ (.int .i64 ((i : Int) + k + 1))).alloc (.cells #[.slice A N c, .int .i64 ((i : Int) + k + 1)] 182)) := (Keep.setCell (S := fun j => j = w.heap.size ∨ j = g) (Keep.setCell (S := fun j => j = w.heap.size ∨ j = g) (Keep.refl _ _) ⟨w.heap.size, 0, none⟩ (.inr (.inl rfl)) _) ⟨w.heap.size, 1, none⟩ (.inr (.inl rfl)) _).alloc _
          have e3 := (Below.heap_alloc ((w1.setCell ⟨w.heap.size, 0, none⟩ (.slice A N c)).setCell ⟨w.heap.size, 1, none⟩ (.int .i64 ((i : Int) + k + 1))) (.cells #[.slice A N c, .int .i64 ((i : Int) + k + 1)] 182) w.heap.size (by simpa using hlz1)).trans e2
          have ho5 := ((Keep.setCell (S := fun j => j = w.heap.size) (Keep.setCell (S := fun j => j = w.heap.size) (Keep.refl _ w1) ⟨w.heap.size, 0, none⟩ (.inr rfl) (.slice A N c)) ⟨w.heap.size, 1, none⟩ (.inr rfl) (.int .i64 ((i : Int) + k + 1))).alloc (.cells #[.slice A N c, .int .i64 ((i : Int) + k + 1)] 182)).own HO2.out (fun j hj e => Hne3.out (by injection hj with hj; exact hj.trans e))
          obtain ⟨W5, hW5⟩ : ∃ W5, W5 = ((w1.setCell ⟨w.heap.size, 0, none⟩ (.slice A N c)).setCell ⟨w.heap.size, 1, none⟩ (.int .i64 ((i : Int) + k + 1))).alloc (.cells #[.slice A N c, .int .i64 ((i : Int) + k + 1)] 182) := ⟨_, rfl⟩
          rw [← hW5] at e3 hk5 ho5 ⊢
          clear hW5 e1 e2
          have hlen := own_len ho5
          have hqn := Hqn.out; have hdn := Hdn.out
          have p1 := own_num ho5 hqn
          have p2 := own_num ho5 hdn
          have f1 := ho5.frozenAt q
          have f2 := ho5.frozenAt dk
          have hcm := swp_comm (p := shufN n (drawN l n i) k) (i := q) (j := dk) (by rw [shufN_len]; exact hqn) (by rw [shufN_len]; exact hdn)
          have hsx : shufN n (drawN l n i) (k + 1) = swp (shufN n (drawN l n i) k) q dk := by rw [shufN, Hq.out, Hdk.out]
          obtain ⟨sl, hsl⟩ : ∃ sl, shufN n (drawN l n i) k = sl := ⟨_, rfl⟩
          rw [hsl] at ho5 p1 p2 hcm hsx
          have Ho5 := Lib.hid ho5; have Hcm := Lib.hid hcm; have Hqd := Lib.hid hqn; have Hsx := Lib.hid hsx; have HK5 := Lib.hid hk5; have HE3 := Lib.hid e3
          have hdi := Hdi.out; have hqi := Hqi.out
          clear ho5 hcm hsx hk5 e3 hsl hlen
          go_upto_region 14 with (fail)
          go_upto_region 15 with (fail)
          have ho6 := own_put Ho5.out q (nth sl dk)
          have hk6 : Keep (fun j => j = w.heap.size ∨ j = g) w1 (W5.setCell ⟨g, q, none⟩ (.int .i64 (nth sl dk))) := Keep.setCell (S := fun j => j = w.heap.size ∨ j = g) HK5.out ⟨g, q, none⟩ (.inr (.inr rfl)) _
          have hz6 := ((Keep.setCell (S := fun j => j = g) (Keep.refl _ W5) ⟨g, q, none⟩ (.inr rfl) (.int .i64 (nth sl dk))).block w.heap.size (lt_of_block HE3.out) (fun e => Hne3.out e.symm)).trans HE3.out
          obtain ⟨W6, hW6⟩ : ∃ W6, W6 = W5.setCell ⟨g, q, none⟩ (.int .i64 (nth sl dk)) := ⟨_, rfl⟩
          rw [← hW6] at ho6 hk6 hz6 ⊢
          clear hW6 p1 p2 f1 f2
          have hdn := Hdn.out
          have p2 := own_num ho6 hdn
          have f2 := ho6.frozenAt dk
          have HO6 := Lib.hid ho6; have HK6 := Lib.hid hk6; have HZ6 := Lib.hid hz6
          clear ho6 hk6 hz6
          go_upto_region 10 with (fail)
          have hqb := sh_b Hqn.out hn2
          clear p2 f2 hdi hqi hwq
          go_wp2_with fail
          go_roundw
          case rel =>
            refine ⟨k + 1, hlt, congrArg (Value.int .i64) (sh_m Hq.out hlt hmn), ?_, ?_, ?_⟩
            · have h8 := (Keep.setCell (S := fun j => j = g) (Keep.refl _ W6) ⟨g, dk, none⟩ (.inr rfl) (.int .i64 (nth sl q))).block w.heap.size (lt_of_block HZ6.out) (fun e => Hne3.out e.symm)
              refine h8.trans (HZ6.out.trans ?_)
              simp [Int.add_assoc]
            · rw [Hsx.out]
              exact own_put HO6.out dk _
            · exact HK.out.trans ((Keep.below Hb1.out).trans (Keep.setCell (S := fun j => j = w.heap.size ∨ j = g) HK6.out ⟨g, dk, none⟩ (.inr (.inr rfl)) _))
          case measure => exact sh_t hq1
        · obtain rfl : m = k := by omega
          have hy2 := (hK.block _ (by omega) (by omega)).trans HY1.out
          have hB9 : Below w.heap.size w wr := HB1.out.trans (hK.toBelow HB1.out.size (fun j hj => by omega))
          have e1 := heap_setCell_same wr (w.heap.size + 1) 0 _ _ (.slice A N c) hy2
          have e2 := heap_setCell_same _ (w.heap.size + 1) 1 _ _ (.int .i64 ((i : Int) + m)) e1
          have hk9 : Keep (fun j => j = w.heap.size + 1) wr ((wr.setCell ⟨w.heap.size + 1, 0, none⟩ (.slice A N c)).setCell ⟨w.heap.size + 1, 1, none⟩ (.int .i64 ((i : Int) + m))) := Keep.setCell (S := fun j => j = w.heap.size + 1) (Keep.setCell (S := fun j => j = w.heap.size + 1) (Keep.refl _ _) _ (.inr rfl) _) _ (.inr rfl) _
          have hm9 := hk9.own hown (fun j hj e => by injection hj with hj; have h1 : g = j := hj; omega)
          have z0 := cell_of_row wr _ 0 _ _ _ hz
          have z1 := cell_of_row wr _ 1 _ _ _ hz
          have zf := fun j => frozen_of_row wr _ j _ _ hz
          have y0 := cell_of_row wr _ 0 _ _ _ hy2
          have y1 := cell_of_row wr _ 1 _ _ _ hy2
          have yf := fun j => frozen_of_row wr _ j _ _ hy2
          have Hm9 := Lib.hid hm9; have Hbf := Lib.hid (hB9.trans (hk9.toBelow hB9.size (fun j hj => by omega))); have E2 := Lib.hid e2
          clear hm9 hB9 hk9 e1 e2 hK hown hz hy2
          go_wp2_with fail
          have e3 := E2.out
          have hm9 := Hm9.out
          have hbf := Hbf.out
          obtain ⟨W9, hW9⟩ : ∃ W9, W9 = (wr.setCell ⟨w.heap.size + 1, 0, none⟩ (.slice A N c)).setCell ⟨w.heap.size + 1, 1, none⟩ (.int .i64 ((i : Int) + m)) := ⟨_, rfl⟩
          rw [← hW9] at e3 hm9 hbf ⊢
          clear hW9
          have e3 : W9.heap[w.heap.size + 1]? = some (.cells #[.slice A N c, .int .i64 ((i : Int) + m)] 182 (0, 0)) := by simpa using e3
          clear y0 y1 yf z0 z1 zf
          have r0 := cell_of_row W9 _ 0 _ _ _ e3
          have r1 := cell_of_row W9 _ 1 _ _ _ e3
          have rf := fun j => frozen_of_row W9 _ j _ _ e3
          exact bodyPost_ret (v := .tuple #[.agg #[.slice A N c, .int .i64 ((i : Int) + m)], .slice (some ⟨g, 0, none⟩) n c2, .bool true]) (by simp [results, Tryz.results104, go_sem, r0, r1]) rfl ⟨_, by rw [Int.natCast_add], own_base hm9 (by omega), hbf⟩
end Go.Proofs.YtfiojofcafjfeaaGreat
namespace Go.Proofs.YtfiojofcafjfeaaGreat
open Go.RowKit

set_option maxRecDepth 100000 in
theorem epochs12_any (n bt sn : Nat) (w : World) (hb : 1 ≤ bt ∧ bt ≤ n) (hn : n ≤ 1048576) (hs : sn ≤ 1048576) :
    Calls Tryz.prog 103 #[.int .i64 n, .int .i64 bt, .int .i64 sn] w fun e w' => e = .returned (.int .i64 (epN n bt sn : Int)) ∧ w = w' := by
  obtain ⟨per, hper⟩ : ∃ per, n / bt = per := ⟨_, rfl⟩
  have hper1 : 1 ≤ per := by rw [← hper]; exact Nat.div_pos (by omega) (by omega)
  have hper2 : per ≤ n := by rw [← hper]; exact Nat.div_le_self _ _
  have hE : epN n bt sn = (sn + per - 1) / per := by unfold epN; rw [hper, cntQ_eq _ _ hper1]
  rw [hE]
  have hEl : (sn + per - 1) / per ≤ sn + per - 1 := Nat.div_le_self _ _
  have hc1 := fun t => ceil_ge (sn := sn) (t := t) hper1
  have hc2 := fun t => ceil_lt (sn := sn) (t := t) hper1
  obtain ⟨E, hE2⟩ : ∃ E, (sn + per - 1) / per = E := ⟨_, rfl⟩
  rw [hE2] at hEl hc1 hc2 ⊢
  have hq1 : (n : Int).tdiv (bt : Int) = (per : Int) := by rw [← hper]; rfl
  have hq1' : (n : Int) / (bt : Int) = (per : Int) := by rw [← hper]; rfl
  have hq3 : ¬ (bt = 0) := by omega
  have Hc1 := Lib.hid hc1; have Hc2 := Lib.hid hc2
  clear hper hE hE2 hc1 hc2
  go_enter Tryz.func103, Tryz.ntmps103
  go_wp2_with fail
  go_loopw [7, 8] (fun t i wr => ∃ k m : Nat, k ≤ E ∧ t = .int .i64 k ∧ i = .int .i64 m ∧ Hid (m = k * per) ∧ m < sn + per ∧ wr = w) (fun _ i _ => sn - (intOf i).toNat)
  case atStart => exact ⟨0, 0, Nat.zero_le _, rfl, rfl, Lib.hid (by omega), by omega, rfl⟩
  case round =>
    obtain ⟨k, m, hk, rfl, rfl, Hm, hm, rfl⟩ := hrel
    by_cases hlt : m < sn
    · have hlti : (m : Int) < sn := by omega
      go_wp2_with fail
      go_roundw
      case rel => exact ⟨k + 1, m + per, Hc1.out k (by rw [← Hm.out]; exact hlt), by go_num, by go_num, Lib.hid (by rw [Hm.out, Nat.succ_mul]), by omega, trivial⟩
      case measure => simp [intOf]; omega
    · obtain rfl : k = E := by
        rcases Nat.lt_or_ge k E with h | h
        · exact absurd (Hc2.out k h) (by rw [← Hm.out]; exact hlt)
        · omega
      go_wp2_with fail
      go_ret
      exact ⟨rfl, rfl⟩

set_option maxRecDepth 100000 in
theorem repoch_any (n bt sn t c : Nat) (A : Option Addr) (ol : Nat) (w : World) (hb : 1 ≤ bt ∧ bt ≤ n) (hn : n ≤ 1048576) (hs : sn ≤ 1048576) (ht : t < sn) :
    Calls Tryz.prog 64 #[.agg #[.int .i64 n, .int .i64 bt, .int .i64 sn, .slice A ol c], .int .i64 t] w fun e w' => e = .returned (.tuple #[.int .i64 (t / (n / bt) : Nat), .int .i64 (t % (n / bt) : Nat), .bool true]) ∧ Below w.heap.size w w' := by
  obtain ⟨per, hper⟩ : ∃ per, n / bt = per := ⟨_, rfl⟩
  have hper1 : 1 ≤ per := by rw [← hper]; exact Nat.div_pos (by omega) (by omega)
  have hper2 : per ≤ n := by rw [← hper]; exact Nat.div_le_self _ _
  have hq1 : (n : Int).tdiv (bt : Int) = (per : Int) := by rw [← hper]; rfl
  have hq1' : (n : Int) / (bt : Int) = (per : Int) := by rw [← hper]; rfl
  rw [hper]
  have hd1 : t / per ≤ t := Nat.div_le_self _ _
  have hd2 : t % per < per := Nat.mod_lt _ (by omega)
  have hq2 : (t : Int).tdiv (per : Int) = ((t / per : Nat) : Int) := rfl
  have hq2' : (t : Int) / (per : Int) = ((t / per : Nat) : Int) := rfl
  have hq4 : (t : Int).tmod (per : Int) = ((t % per : Nat) : Int) := rfl
  have hq4' : (t : Int) % (per : Int) = ((t % per : Nat) : Int) := rfl
  obtain ⟨E, hE⟩ : ∃ E, t / per = E := ⟨_, rfl⟩
  obtain ⟨M, hM⟩ : ∃ M, t % per = M := ⟨_, rfl⟩
  rw [hE] at hd1 hq2 hq2' ⊢
  rw [hM] at hd2 hq4 hq4' ⊢
  have hq3 : ¬ (bt = 0) := by omega
  have hq5 : ¬ (per = 0) := by omega
  have hti : ¬ ((sn : Int) ≤ t) := by omega
  have hti' : (t : Int) < sn := by omega
  clear hper hE hM
  go_enter Tryz.func64, Tryz.ntmps64
  go_wp2_with fail
  go_quiet (fail)
  go_wp2_with fail
  exact bodyPost_ret (v := .tuple #[.int .i64 (E : Int), .int .i64 (M : Int), .bool true]) (by simp [results, Tryz.results64, go_sem]) rfl ⟨rfl, below_drewN ((Below.refl _ w).alloc (Nat.le_refl _) _) _⟩
end Go.Proofs.YtfiojofcafjfeaaGreat
