/- The reference's Batch. The reference's Check and Few of examples. No condition. -/
import Derived.Test.YtfiojofcafjfeaaGreatJ36
import Derived.Test.YtfiojofcafjfeaaGreatJ22
import Derived.Test.YtfiojofcafjfeaaGreatJ28
import Derived.Test.YtfiojofcafjfeaaGreatJ14
import Derived.Deep.RegionHeld3
set_option linter.unusedSimpArgs false
set_option linter.unusedVariables false
namespace Go.Proofs.YtfiojofcafjfeaaGreat
open Go.RowKit

set_option maxRecDepth 100000 in
theorem repoch_none (n bt sn : Nat) (t : Int) (c : Nat) (A : Option Addr) (ol : Nat) (w : World) (ht : t < 0 ∨ (sn : Int) ≤ t) :
    Calls Tryz.prog 64 #[.agg #[.int .i64 n, .int .i64 bt, .int .i64 sn, .slice A ol c], .int .i64 t] w fun e w' => e = .returned (.tuple #[.int .i64 0, .int .i64 0, .bool false]) ∧ Below w.heap.size w w' := by
  by_cases h1 : t < 0
  · go_enter Tryz.func64, Tryz.ntmps64
    go_wp2_with fail
    exact bodyPost_ret (v := .tuple #[.int .i64 0, .int .i64 0, .bool false]) (by simp [results, Tryz.results64, go_sem]) rfl ⟨rfl, (Below.refl _ w).alloc (Nat.le_refl _) _⟩
  · have h2 : (sn : Int) ≤ t := by omega
    go_enter Tryz.func64, Tryz.ntmps64
    go_wp2_with fail
    exact bodyPost_ret (v := .tuple #[.int .i64 0, .int .i64 0, .bool false]) (by simp [results, Tryz.results64, go_sem]) rfl ⟨rfl, (Below.refl _ w).alloc (Nat.le_refl _) _⟩

set_option maxRecDepth 100000 in
theorem rbatch_none (n bt sn : Nat) (t : Int) (c : Nat) (A : Option Addr) (ol : Nat) (w : World) (ht : t < 0 ∨ (sn : Int) ≤ t) :
    Calls Tryz.prog 35 #[.agg #[.int .i64 n, .int .i64 bt, .int .i64 sn, .slice A ol c], .int .i64 t] w fun e w' => e = .returned (.slice none 0 0) ∧ Below w.heap.size w w' := by
  have hep := fun w' => repoch_none n bt sn t c A ol w' ht
  have Hep := Lib.hid hep; clear hep ht
  have hz := heap_alloc_new w (.cells #[.int .i64 n, .int .i64 bt, .int .i64 sn, .slice A ol c] 83)
  have hB0 : Below w.heap.size w (w.alloc (.cells #[.int .i64 n, .int .i64 bt, .int .i64 sn, .slice A ol c] 83)) := (Below.refl _ w).alloc (Nat.le_refl _) _
  go_enter Tryz.func35, Tryz.ntmps35
  obtain ⟨W0, hW0⟩ : ∃ W0, W0 = w.alloc (.cells #[.int .i64 n, .int .i64 bt, .int .i64 sn, .slice A ol c] 83) := ⟨_, rfl⟩
  go_wp2_with fail
  rw [← hW0] at hz hB0 ⊢
  clear hW0
  refine (Hep.out _).mono ?_
  rintro e w1 ⟨rfl, hb1⟩
  have HB1 := Lib.hid (hB0.trans (hb1.mono hB0.size)); clear hz hB0 hb1
  go_wp2_with fail
  go_ret
  exact ⟨rfl, HB1.out⟩

set_option maxRecDepth 100000 in
set_option maxHeartbeats 200000 in
theorem rbatch_any (n b steps t E c : Nat) (A : Option Addr) (l : List Int) (w : World) (hA : SlRd rVec 1 w A (ordersN l n E)) (hb : 1 ≤ b) (hbn : b ≤ n) (hn : n ≤ 1048576) (hst : steps ≤ 1048576) (ht : t < steps) (hE : E = epN n b steps) :
    Calls Tryz.prog 35 #[.agg #[.int .i64 n, .int .i64 b, .int .i64 steps, .slice A E c], .int .i64 t] w fun e w' => ∃ A c, e = .returned (.slice A b c) ∧ b ≤ c ∧ Rd w' A (nums .i64 (batchN l n b t)) ∧ Below w.heap.size w w' := by
  have hnb : 1 ≤ n / b := Nat.div_pos hbn hb
  have hep := fun w' => repoch_any n b steps t c A E w' ⟨hb, hbn⟩ hn hst ht
  have hlt : t / (n / b) < E := by rw [hE]; exact epoch_lt ht
  have hel : E ≤ steps := by rw [hE]; exact cntQ_le _ _
  have hbt : batchN l n b t = ((permN l n ((t / (n / b)) * (n - 1))).drop (t % (n / b) * b)).take b := rfl
  have hwm : t % (n / b) * b + b ≤ n := whole_le n b _ (Nat.mod_lt _ (by omega))
  rw [hbt]
  have hx := ordersN_at l n hlt
  obtain ⟨pl, hpl⟩ : ∃ pl, permN l n ((t / (n / b)) * (n - 1)) = pl := ⟨_, rfl⟩
  have hpn : pl.length = n := by rw [← hpl]; exact permN_len _ _ _
  rw [hpl] at hx ⊢
  obtain ⟨e0, he0⟩ : ∃ e0, t / (n / b) = e0 := ⟨_, rfl⟩
  obtain ⟨p0, hp0⟩ : ∃ p0, t % (n / b) = p0 := ⟨_, rfl⟩
  rw [he0] at hep hlt hx
  rw [hp0] at hep hwm ⊢
  obtain ⟨lo, hlo⟩ : ∃ lo, p0 * b = lo := ⟨_, rfl⟩
  rw [hlo] at hwm ⊢
  obtain ⟨bo, oo, A1, c1, rfl, hb1, q2, k3, h11, h9⟩ := rVec_cell hA hx
  rw [hpn] at h9 h11 q2
  obtain ⟨bg, og, rfl, q3⟩ := k3.num (show 0 < pl.length by omega)
  have he2 : (e0 : Int) < E := by omega
  have hl1 : (lo : Int) ≤ ((lo + b : Nat) : Int) := by omega
  have hl4 : lo + b ≤ c1 := by omega
  have hp0l : (p0 : Int) * b = (lo : Int) := by rw [← hlo]; push_cast; rfl
  have Hep := Lib.hid hep; have K3 := Lib.hid k3
  clear hep k3 hE he0 hp0 hlo hpl hA hbt q3 hx
  have hz := heap_alloc_new w (.cells #[.int .i64 n, .int .i64 b, .int .i64 steps, .slice (some ⟨bo, oo, none⟩) E c] 83)
  have hB0 : Below w.heap.size w (w.alloc (.cells #[.int .i64 n, .int .i64 b, .int .i64 steps, .slice (some ⟨bo, oo, none⟩) E c] 83)) := (Below.refl _ w).alloc (Nat.le_refl _) _
  go_enter Tryz.func35, Tryz.ntmps35
  obtain ⟨W0, hW0⟩ : ∃ W0, W0 = w.alloc (.cells #[.int .i64 n, .int .i64 b, .int .i64 steps, .slice (some ⟨bo, oo, none⟩) E c] 83) := ⟨_, rfl⟩
  go_wp2_with fail
  rw [← hW0] at hz hB0 ⊢
  clear hW0
  refine (Hep.out _).mono ?_
  rintro e w1 ⟨rfl, hb1'⟩
  have hz1 := (hb1'.block _ (lt_of_block hz)).trans hz
  have hbb := hB0.trans (hb1'.mono hB0.size)
  have q2' := cell_below hbb q2
  have hbs : bo < w1.heap.size := by have := hbb.size; omega
  have hbz := lt_of_block hz1
  have y0 := cell_of_row w1 _ 0 _ _ _ hz1
  have y1 := cell_of_row w1 _ 1 _ _ _ hz1
  have y2 := cell_of_row w1 _ 2 _ _ _ hz1
  have y3 := cell_of_row w1 _ 3 _ _ _ hz1
  have yf := fun j => frozen_of_row w1 _ j _ _ hz1
  have HB := Lib.hid hbb
  clear q2 hz hB0 hb1' hz1 hbb hl1
  go_upto_region 4 with (fail)
  have hw1' : IntKind.i64.wrap ((lo : Int) + b) = (lo : Int) + b := IntWalk.i64_in _ (by omega)
  have hw0' : IntKind.i64.wrap (lo : Int) = (lo : Int) := IntWalk.i64_in _ (by omega)
  have hl6 : (lo : Int) + b ≤ c1 := by omega
  have hl7 : ((lo : Int) + b).toNat = lo + b := by omega
  have hl8 : (0 : Int) ≤ (lo : Int) + b := by omega
  have hl9 : (lo : Int) ≤ (lo : Int) + b := by omega
  have hl0 : lo + b - lo = b := by omega
  have hlx : ¬ (lo + b = lo) := by omega
  go_quiet (fail)
  go_wp2_with fail
  go_ret
  refine ⟨_, _, rfl, ?_, ?_, below_drewN HB.out _⟩
  · omega
  · have := (((K3.out.below HB.out).drewN nq).drop lo).take b
    rwa [nums_drop, nums_take] at this
end Go.Proofs.YtfiojofcafjfeaaGreat
namespace Go.Proofs.YtfiojofcafjfeaaGreat
open Go.RowKit

set_option maxRecDepth 100000 in
theorem rdcheck_any (a b c : Nat) (A : Option Addr) (l : List Ex) (w : World) (h : SlRd rEx 2 w A l) (hl : l.length ≤ 1048576) :
    Calls Tryz.prog 43 #[.slice A l.length c, .int .i64 a, .int .i64 b] w (DChkIs l a b w) := by
  unfold DChkIs
  obtain ⟨n, hn⟩ : ∃ n, l.length = n := ⟨_, rfl⟩
  rw [hn] at hl ⊢
  have H := Lib.hid h; have Hn := Lib.hid hn; clear h hn
  go_enter Tryz.func43, Tryz.ntmps43
  go_wp2_with fail
  go_loopw [8] (fun i wr => ∃ k : Nat, k ≤ n ∧ i = .int .i64 k ∧ Hid (∀ j x, j < k → l[j]? = some x → fitEx a b x) ∧ wr = w) (fun i _ => n - (intOf i).toNat)
  case atStart => exact ⟨0, Nat.zero_le _, rfl, Lib.hid fun j x hj => by omega, rfl⟩
  case round =>
    obtain ⟨k, hk, rfl, Hall, rfl⟩ := hrel
    by_cases hlt : k < n
    · obtain ⟨x, hx⟩ : ∃ x, l[k]? = some x := ⟨_, List.getElem?_eq_getElem (by rw [Hn.out]; exact hlt)⟩
      obtain ⟨b', o, A1, c1, A2, c2, rfl, hbl, p1, p2, r1, r2⟩ := ex_cells H.out hx
      have Hx := Lib.hid hx
      obtain ⟨n1, hn1⟩ : ∃ n1, x.1.length = n1 := ⟨_, rfl⟩
      obtain ⟨n2, hn2⟩ : ∃ n2, x.2.length = n2 := ⟨_, rfl⟩
      rw [hn1] at p1
      rw [hn2] at p2
      have hfi : fitEx a b x ↔ n1 = a ∧ n2 = b := by unfold fitEx; rw [hn1, hn2]
      have Hf := Lib.hid hfi
      have hlti : (k : Int) < n := by omega
      clear r1 r2 hx hn1 hn2 hfi
      by_cases e1 : n1 ≠ a
      · have hq : ((n1 : Int) != (a : Int)) = true := by rw [bne_iff_ne]; omega
        go_wp2_with fail
        go_ret2
        exact ⟨Below.refl _ _, k, .inr ⟨fun h => e1 (Hf.out.1 (h x (List.mem_of_getElem? Hx.out))).1, rfl⟩⟩
      have hq1 : ((n1 : Int) != (a : Int)) = false := by rw [bne_eq_false_iff_eq]; omega
      by_cases e2 : n2 ≠ b
      · have hq : ((n2 : Int) != (b : Int)) = true := by rw [bne_iff_ne]; omega
        have E2 := Lib.hid e2; clear e1 e2
        go_wp2_with fail
        go_ret2
        exact ⟨Below.refl _ _, k, .inr ⟨fun h => E2.out (Hf.out.1 (h x (List.mem_of_getElem? Hx.out))).2, rfl⟩⟩
      have hq2 : ((n2 : Int) != (b : Int)) = false := by rw [bne_eq_false_iff_eq]; omega
      have He := Lib.hid (Hf.out.2 ⟨by omega, by omega⟩)
      clear e1 e2
      go_wp2_with fail
      go_roundw
      case rel => exact ⟨k + 1, by omega, by go_num, Lib.hid (p := ∀ j x, j < k + 1 → l[j]? = some x → fitEx a b x) fun j y hj hy => by
        rcases Nat.lt_or_ge j k with h | h
        · exact Hall.out j y h hy
        · obtain rfl : j = k := by omega
          have := Hx.out; rw [hy] at this; injection this with this; rw [this]; exact He.out, trivial⟩
      case measure => simp [intOf]; omega
    · obtain rfl : n = k := by omega
      go_wp2_with fail
      go_ret2
      exact ⟨Below.refl _ _, 0, .inl ⟨fun x hx => by
        obtain ⟨j, hj, e⟩ := List.mem_iff_getElem.1 hx
        exact Hall.out j x (by rw [← Hn.out]; exact hj) (by rw [List.getElem?_eq_getElem hj, e]), rfl⟩⟩

/-- Some answer; if it is true, then q; nothing is written. -/
def FewB (q : Prop) (w : World) (e : Ending) (w' : World) : Prop := (∃ b : Bool, e = .returned (.bool b) ∧ (b = true → q)) ∧ ∃ n, w' = w.drewN n
theorem fewB_any {q : Prop} (hq : q) (b : Bool) (w : World) (d : Nat) : FewB q w (.returned (.bool b)) (w.drewN d) := ⟨⟨b, rfl, fun _ => hq⟩, d, rfl⟩
theorem fewB_no (q : Prop) (w : World) (d : Nat) : FewB q w (.returned (.bool false)) (w.drewN d) := ⟨⟨false, rfl, fun h => by cases h⟩, d, rfl⟩
set_option maxRecDepth 100000 in
theorem rfew_any (c : Nat) (A : Option Addr) (l : List Ex) (w : World) (h : SlRd rEx 2 w A l) (hl : l.length ≤ 17592186043904) :
    Calls Tryz.prog 66 #[.slice A l.length c] w (FewB (l.length ≤ 60) w) := by
  obtain ⟨n, hn⟩ : ∃ n, l.length = n := ⟨_, rfl⟩
  rw [hn] at hl ⊢
  have H := Lib.hid h; have Hn := Lib.hid hn; clear h hn
  go_enter Tryz.func66, Tryz.ntmps66
  go_wp2_with fail
  go_loopw [3, 4] (fun v i wr => ∃ k : Nat, ∃ x : Int, k ≤ n ∧ i = .int .i64 k ∧ v = .int .i64 x ∧ ∃ d, wr = w.drewN d) (fun _ i _ => n - (intOf i).toNat)
  case atStart => exact ⟨0, 0, Nat.zero_le _, rfl, rfl, 0, rfl⟩
  case round =>
    obtain ⟨k, x, hk, rfl, rfl, d, rfl⟩ := hrel
    by_cases hlt : k < n
    · have hlti : (k : Int) < n := by omega
      by_cases h100 : k < 100
      · have h100i : (k : Int) < 100 := by omega
        obtain ⟨y, hy⟩ : ∃ y, l[k]? = some y := ⟨_, List.getElem?_eq_getElem (by rw [Hn.out]; exact hlt)⟩
        obtain ⟨b', o, A1, c1, A2, c2, rfl, hbl, p1, p2, r1, r2⟩ := ex_cells H.out hy
        obtain ⟨n1, hn1⟩ : ∃ n1, y.1.length = n1 := ⟨_, rfl⟩
        obtain ⟨n2, hn2⟩ : ∃ n2, y.2.length = n2 := ⟨_, rfl⟩
        rw [hn1] at p1
        rw [hn2] at p2
        clear r1 r2 hy hn1 hn2
        have q1 : (w.drewN d).cell? ⟨b', o + k * 2, none⟩ = some (.slice A1 n1 c1) := p1
        have q2 : (w.drewN d).cell? ⟨b', o + k * 2 + 1, none⟩ = some (.slice A2 n2 c2) := p2
        generalize hW : w.drewN d = W at q1 q2 ⊢
        have HW := Lib.hid hW; clear hW
        go_wp2_with fail
        go_region
        all_goals
          go_wp2_with fail
          go_roundw
          case rel => exact ⟨k + 1, _, by omega, by go_num, rfl, d + 1, by rw [← HW.out]; rfl⟩
          case measure => simp [intOf]; omega
      · have h100i : ¬ ((k : Int) < 100) := by omega
        have h60 : ¬ ((n : Int) ≤ 60) := by omega
        have h60' : ¬ (n ≤ 60) := by omega
        go_wp2_with fail
        all_goals
          go_ret
          exact fewB_no _ _ _
    · obtain rfl : n = k := by omega
      by_cases h60n : n ≤ 60
      · have h60 : (n : Int) ≤ 60 := by omega
        have G := Lib.hid h60n
        go_wp2_with fail
        all_goals
          go_ret
          exact fewB_any G.out _ _ _
      · have h60 : ¬ ((n : Int) ≤ 60) := by omega
        go_wp2_with fail
        all_goals
          go_ret
          exact fewB_no _ _ _
end Go.Proofs.YtfiojofcafjfeaaGreat
