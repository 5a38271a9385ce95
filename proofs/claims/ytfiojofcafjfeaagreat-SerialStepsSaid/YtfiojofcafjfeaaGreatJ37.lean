/- The reference's New of a sampler. The reference's Sampler of a run. No condition. -/
import Derived.Test.YtfiojofcafjfeaaGreatJ36
import Derived.Test.YtfiojofcafjfeaaGreatJ14
import Derived.Test.YtfiojofcafjfeaaGreatJ18
import Derived.Test.YtfiojofcafjfeaaGreatJ24
import Derived.Test.YtfiojofcafjfeaaGreatJ33
set_option linter.unusedSimpArgs false
set_option linter.unusedVariables false
namespace Go.Proofs.YtfiojofcafjfeaaGreat
open Go.RowKit

/-- The orders of the epochs ahead of k. -/
def OrdI (l : List Int) (n B k : Nat) (v : Value) (vs : List Value) (w : World) : Prop := w.ownsRow B 22 1 v k vs ∧ ∀ j, j < k → ∃ A' c', vs[j]? = some (.slice A' n c') ∧ n ≤ c' ∧ w.ownsRow B 3 1 (.slice A' n c') n (nums .i64 (permN l n (j * (n - 1))))
theorem OrdI.below {l : List Int} {n B k : Nat} {v : Value} {vs : List Value} {w w' : World} (h : OrdI l n B k v vs w) (hb : Below w.heap.size w w') : OrdI l n B k v vs w' :=
  ⟨own_below h.1 hb, fun j hj => by obtain ⟨A', c', k1, k2, k3⟩ := h.2 j hj; exact ⟨A', c', k1, k2, own_below k3 hb⟩⟩
theorem OrdI.keep {l : List Int} {n B k : Nat} {v : Value} {vs : List Value} {S : Nat → Prop} {w w' : World} (h : OrdI l n B k v vs w) (hk : Keep S w w') (hS : ∀ k, S k → k < B) : OrdI l n B k v vs w' :=
  ⟨hk.own h.1 (fun j hj e => by have := (h.1.lt j hj).1; have := hS j e; omega), fun j hj => by
    obtain ⟨A', c', k1, k2, k3⟩ := h.2 j hj
    exact ⟨A', c', k1, k2, hk.own k3 (fun j hj e => by have := (k3.lt j hj).1; have := hS j e; omega)⟩⟩
theorem OrdI.base {l : List Int} {n B B' k : Nat} {v : Value} {vs : List Value} {w : World} (h : OrdI l n B k v vs w) (hb : B' ≤ B) : OrdI l n B' k v vs w :=
  ⟨own_base h.1 hb, fun j hj => by obtain ⟨A', c', k1, k2, k3⟩ := h.2 j hj; exact ⟨A', c', k1, k2, own_base k3 hb⟩⟩
theorem OrdI.push {l : List Int} {n B k : Nat} {v v' : Value} {vs : List Value} {w w' : World} {A : Option Addr} {c : Nat} (h : OrdI l n B k v vs w) (hr : w.ownsRow B 3 1 (.slice A n c) n (nums .i64 (permN l n (k * (n - 1))))) (hc : n ≤ c)
    (ho : w'.ownsRow B 22 1 v' (k + 1) (vs ++ [.slice A n c])) (hg : w.grownBy w' v.ownBlock) : OrdI l n B (k + 1) v' (vs ++ [.slice A n c]) w' :=
  ⟨ho, fun j hj => by
    have hvl : vs.length = k := by have := h.1.1; simpa using this
    rcases Nat.lt_or_ge j k with q | q
    · obtain ⟨A', c', k1, k2, k3⟩ := h.2 j q
      exact ⟨A', c', by rw [List.getElem?_append_left (by omega)]; exact k1, k2, own_pushed k3 h.1 hg (by decide)⟩
    · obtain rfl : j = k := by omega
      exact ⟨A, c, by rw [List.getElem?_append_right (by omega), hvl]; simp, hc, own_pushed hr h.1 hg (by decide)⟩⟩
theorem OrdI.rd {l : List Int} {n B k c : Nat} {A : Option Addr} {vs : List Value} {w : World} (h : OrdI l n B k (.slice A k c) vs w) (hn : n ≤ 1048576) : SlRd rVec 1 w A (ordersN l n k) := by
  have hvl : vs.length = k := by have := h.1.1; simpa using this
  refine slrd_one (Rd.own h.1) (by rw [hvl, ordersN_len]) fun j x hx => ?_
  have hj : j < k := by rw [← ordersN_len l n k]; exact (List.getElem?_eq_some_iff.1 hx).1
  rw [ordersN_at l n hj] at hx; injection hx with hx
  obtain ⟨A', c', k1, k2, k3⟩ := h.2 j hj
  refine ⟨_, k1, A', c', ?_, ?_, ?_, ?_⟩
  · rw [← hx, permN_len]
  · rw [← hx, permN_len]; exact k2
  · rw [← hx, permN_len]; omega
  · rw [← hx]; exact Rd.own k3
theorem nw_mul {k E m : Nat} (h : k < E) {N : Nat} (h2 : E * m ≤ N) : k * m + m ≤ N := by
  have h1 : (k + 1) * m ≤ E * m := Nat.mul_le_mul_right _ h
  rw [Nat.succ_mul] at h1; omega
theorem nw_lt (k n : Nat) (hn : n ≤ 1048576) (m N : Nat) (hN : N ≤ 1048576) (h : k * m ≤ N) : ((k * m : Nat) : Int) ≤ 1048576 := by omega

def RNew12Is (l : List Int) (n b steps E : Nat) (w : World) (e : Ending) (w' : World) : Prop := ∃ A c, e = .returned (.tuple #[.agg #[.int .i64 n, .int .i64 b, .int .i64 steps, .slice A E c], .int .i64 0]) ∧ (∃ vs, OrdI l n w.heap.size E (.slice A E c) vs w') ∧ Below w.heap.size w w'
set_option maxRecDepth 100000 in
set_option maxHeartbeats 1000000 in
theorem rnew12_any (n b steps E c : Nat) (A : Option Addr) (l : List Int) (w : World) (hA : Rd w A (nums .u64 l)) (hl : l.length ≤ 1048576) (hu : U64 l) (hb : 1 ≤ b) (hbn : b ≤ n) (hn : n ≤ 1048576) (hst : steps ≤ 1048576) (hE : epN n b steps = E) (hd : E * (n - 1) ≤ l.length) :
    Calls Tryz.prog 65 #[.int .i64 n, .int .i64 b, .int .i64 steps, .slice A l.length c] w (RNew12Is l n b steps E w) := by
  have hEs : E ≤ steps := by rw [← hE]; exact cntQ_le _ _
  have hep := fun w' => epochs12_any n b steps w' ⟨hb, hbn⟩ hn hst
  rw [hE] at hep
  have hnd := fun w' => rpneed_any n w' (by omega) hn
  obtain ⟨m, hm⟩ : ∃ m, n - 1 = m := ⟨_, rfl⟩
  have hsh := fun k w' (hk : k * m + m ≤ l.length) (q : Rd w' A (nums .u64 l)) => rshuffle_any n c (k * m) A l w' q (by omega) hn (by rw [hm]; exact hk) hl hu
  rw [hm] at hd hnd
  simp only [hm] at hsh
  obtain ⟨N, hN⟩ : ∃ N, l.length = N := ⟨_, rfl⟩
  rw [hN] at hd hl hsh ⊢
  have q1 : ¬ ((n : Int) < 1) := by omega
  have q2 : ¬ ((1048576 : Int) < n) := by omega
  have q3 : ¬ ((steps : Int) < 0) := by omega
  have q4 : ¬ ((1048576 : Int) < steps) := by omega
  have q5 : ¬ ((b : Int) < 1) := by omega
  have q6 : ¬ ((n : Int) < b) := by omega
  have hEm : (E : Int) * (m : Int) = ((E * m : Nat) : Int) := by push_cast; rfl
  have q7 : ¬ ((N : Int) < (E : Int) * (m : Int)) := by rw [hEm]; omega
  have q8 : wrap64 ((E : Int) * (m : Int)) = (E : Int) * (m : Int) := by rw [hEm]; unfold wrap64; omega
  have Q7 := Lib.hid q7; have Q8 := Lib.hid q8
  clear hEm q7 q8
  have HA := Lib.hid hA; have Hep := Lib.hid hep; have Hnd := Lib.hid hnd; have Hsh := Lib.hid hsh; have Hd := Lib.hid hd; have Hm := Lib.hid hm; have HN := Lib.hid hN
  clear hA hep hnd hsh hd hu hE hb hbn hm hN
  have hz := (Below.heap_alloc (w.alloc (.cells #[.int .i64 0, .int .i64 0, .int .i64 0, .slice none 0 0] 83)) (.cells #[.int .i64 n, .int .i64 b, .int .i64 steps, .slice none 0 0] 83) w.heap.size (by simp)).trans (heap_alloc_new w _)
  have hy := heap_alloc_new (w.alloc (.cells #[.int .i64 0, .int .i64 0, .int .i64 0, .slice none 0 0] 83)) (.cells #[.int .i64 n, .int .i64 b, .int .i64 steps, .slice none 0 0] 83)
  rw [show (w.alloc (.cells #[.int .i64 0, .int .i64 0, .int .i64 0, .slice none 0 0] 83)).heap.size = w.heap.size + 1 by simp] at hy
  have hB : Below w.heap.size w ((w.alloc (.cells #[.int .i64 0, .int .i64 0, .int .i64 0, .slice none 0 0] 83)).alloc (.cells #[.int .i64 n, .int .i64 b, .int .i64 steps, .slice none 0 0] 83)) := ((Below.refl _ w).alloc (Nat.le_refl _) _).alloc (by simp) _
  have hsz : ((w.alloc (.cells #[.int .i64 0, .int .i64 0, .int .i64 0, .slice none 0 0] 83)).alloc (.cells #[.int .i64 n, .int .i64 b, .int .i64 steps, .slice none 0 0] 83)).heap.size = w.heap.size + 2 := by simp
  have HZ := Lib.hid hz; have HY := Lib.hid hy; have HB := Lib.hid hB; have HSz := Lib.hid hsz
  clear hz hy hB hsz
  go_enter Tryz.func65, Tryz.ntmps65
  go_wp2_with fail
  refine (Hep.out _).mono ?_
  rintro e w' ⟨rfl, rfl⟩
  clear q1 q2 q3 q4 q5 q6
  go_wp2_with fail
  refine (Hnd.out _).mono ?_
  rintro e w' ⟨rfl, rfl⟩
  have hz := HZ.out; have hy := HY.out; have hB := HB.out; have hsz := HSz.out
  generalize (w.alloc (.cells #[.int .i64 0, .int .i64 0, .int .i64 0, .slice none 0 0] 83)).alloc (.cells #[.int .i64 n, .int .i64 b, .int .i64 steps, .slice none 0 0] 83) = W1 at hz hy hB hsz ⊢
  have Hz1 := Lib.hid hz; have Hy1 := Lib.hid hy; have HB1 := Lib.hid hB; have Hs1 := Lib.hid hsz
  clear hz hy hB hsz HZ HY HB HSz
  have q7 := Q7.out; have q8 := Q8.out
  go_wp2_with fail
  clear q7 q8
  rw [Hs1.out]
  have hx := heap_alloc_new W1 (.cells #[.slice A N c, .int .i64 0] 182)
  rw [Hs1.out] at hx
  have hz2 := (Below.heap_alloc W1 (.cells #[.slice A N c, .int .i64 0] 182) w.heap.size (by rw [Hs1.out]; omega)).trans Hz1.out
  have hy2 := (Below.heap_alloc W1 (.cells #[.slice A N c, .int .i64 0] 182) (w.heap.size + 1) (by rw [Hs1.out]; omega)).trans Hy1.out
  have hB2 := HB1.out.alloc (by rw [Hs1.out]; omega) (.cells #[.slice A N c, .int .i64 0] 182)
  have hs2 : (W1.alloc (.cells #[.slice A N c, .int .i64 0] 182)).heap.size = w.heap.size + 3 := by simp [Hs1.out]
  generalize W1.alloc (.cells #[.slice A N c, .int .i64 0] 182) = W0 at hx hz2 hy2 hB2 hs2 ⊢
  have HX := Lib.hid hx; have HZ := Lib.hid hz2; have HY := Lib.hid hy2; have HB := Lib.hid hB2; have HS := Lib.hid hs2
  clear hx hz2 hy2 hB2 Hz1 Hy1 HB1 Hs1 W1
  go_loopw [13] (fun x wr => ∃ (k : Nat) (Ao : Option Addr) (co : Nat) (vs : List Value), k ≤ E ∧ x = .int .i64 k ∧ wr.heap[w.heap.size + 1]? = some (.cells #[.int .i64 n, .int .i64 b, .int .i64 steps, .slice Ao k co] 83 (0, 0)) ∧
    wr.heap[w.heap.size + 2]? = some (.cells #[.slice A N c, .int .i64 ((k * m : Nat) : Int)] 182 (0, 0)) ∧ OrdI l n (w.heap.size + 3) k (.slice Ao k co) vs wr ∧ Keep (fun j => j = w.heap.size + 1 ∨ j = w.heap.size + 2) W0 wr) (fun x _ => E - (intOf x).toNat)
  case atStart => exact ⟨0, none, 0, [], Nat.zero_le _, rfl, HY.out, by rw [Nat.zero_mul]; exact HX.out, ⟨World.ownsRow_nil _ _ _ _, fun j hj => by omega⟩, Keep.refl _ _⟩
  case round =>
    obtain ⟨k, Ao, co, vs, hk, rfl, hy, hx, hO, hK⟩ := hrel
    have hrs := hK.size
    rw [HS.out] at hrs
    by_cases hlt : k < E
    · have hlti : (k : Int) < E := by omega
      have hAr : Rd wr A (nums .u64 l) := keep_rd hK HA.out (HA.out.below HB.out) (fun j hj => by omega)
      have hsh := Hsh.out k wr (nw_mul hlt Hd.out) hAr
      have Hsh2 := Lib.hid hsh
      have HO := Lib.hid hO; have HK := Lib.hid hK; have HYr := Lib.hid hy; have HXr := Lib.hid hx
      have x0 := cell_of_row wr _ 0 _ _ _ hx
      have x1 := cell_of_row wr _ 1 _ _ _ hx
      have xf := fun j => frozen_of_row wr _ j _ _ hx
      have hlx := lt_of_block hx
      clear hsh hO hK hy hx hAr
      go_wp2_with fail
      refine Hsh2.out.mono ?_
      rintro e w1 ⟨v, rfl, hrow, hb1⟩
      obtain ⟨Av, cv, rfl, hcv⟩ := own_form hrow
      clear x0 x1 xf Hsh2
      have hx1 := (hb1.block _ hlx).trans HXr.out
      have hy1 := (hb1.block _ (by omega)).trans HYr.out
      have hO1 := HO.out.below hb1
      have hr1 := own_base hrow hrs
      have hs1 := hb1.size
      have x0 := cell_of_row w1 _ 0 _ _ _ hx1
      have x1 := cell_of_row w1 _ 1 _ _ _ hx1
      have xf := fun j => frozen_of_row w1 _ j _ _ hx1
      have hlx1 := lt_of_block hx1
      have HX1 := Lib.hid hx1; have HY1 := Lib.hid hy1; have HO1 := Lib.hid hO1; have HR1 := Lib.hid hr1; have HB1 := Lib.hid hb1; have HS1 := Lib.hid hs1; have HCV := Lib.hid hcv
      clear hx1 hy1 hO1 hr1 hb1 hs1 hrow hcv
      go_upto_region 15 with (fail)
      obtain ⟨e2, k2⟩ := store2 w1 (w.heap.size + 2) (.slice A N c) (.int .i64 ((k : Int) * m + m)) HX1.out
      have k5 := k2.alloc (.cells #[.slice A N c, .int .i64 ((k : Int) * m + m)] 182)
      have e5 := (Below.heap_alloc ((w1.setCell ⟨w.heap.size + 2, 0, none⟩ (.slice A N c)).setCell ⟨w.heap.size + 2, 1, none⟩ (.int .i64 ((k : Int) * m + m))) (.cells #[.slice A N c, .int .i64 ((k : Int) * m + m)] 182) (w.heap.size + 2) (by simpa using hlx1)).trans e2
      generalize ((w1.setCell ⟨w.heap.size + 2, 0, none⟩ (.slice A N c)).setCell ⟨w.heap.size + 2, 1, none⟩ (.int .i64 ((k : Int) * m + m))).alloc (.cells #[.slice A N c, .int .i64 ((k : Int) * m + m)] 182) = W5 at k5 e5 ⊢
      have hz5 := Nat.le_trans (Nat.le_trans hrs HS1.out) k5.size
      have hy5 := (k5.block _ (lt_of_block HY1.out) (by omega)).trans HY1.out
      have hO5 := HO1.out.keep k5 (fun j hj => by omega)
      have hr5 := k5.own HR1.out (fun j hj e => by have := (HR1.out.lt j hj).1; omega)
      have hK5 : Keep (fun j => j = w.heap.size + 1 ∨ j = w.heap.size + 2) W0 W5 := (HK.out.trans (Keep.below HB1.out)).trans (k5.mono fun j _ h => .inr h)
      have hx5 : W5.heap[w.heap.size + 2]? = some (.cells #[.slice A N c, .int .i64 ((((k + 1) * m : Nat)) : Int)] 182 (0, 0)) := by rw [e5, Nat.succ_mul]; push_cast; rfl
      clear x0 x1 xf e2 k2 e5 k5
      have y0 := cell_of_row W5 _ 0 _ _ _ hy5
      have y1 := cell_of_row W5 _ 1 _ _ _ hy5
      have y2 := cell_of_row W5 _ 2 _ _ _ hy5
      have y3 := cell_of_row W5 _ 3 _ _ _ hy5
      have yf := fun j => frozen_of_row W5 _ j _ _ hy5
      have HX5 := Lib.hid hx5; have HY5 := Lib.hid hy5; have HO5 := Lib.hid hO5; have HR5 := Lib.hid hr5; have HK5 := Lib.hid hK5
      have hly5 := lt_of_block hy5
      clear hx5 hy5 hO5 hr5 hK5
      go_wp2_with (at_builtin; refine wpList_push et_intss W5 rfl (.tmp 72) (.tmp 74) rfl (w.heap.size + 3) (.slice Ao k co) k vs rfl HO5.out.1 [.slice Av n cv] rfl rfl (by simp [Value.oneCell']) (by omega) (by unfold maxLen; omega) hz5 ?_)
      intro g6 c6 w6 ho6 hb6 hg6
      have hO6 := HO5.out.push (by have h := HR5.out; rw [← Hm.out] at h; exact h) HCV.out ho6 hg6
      have hy6 := (hb6.block _ (by omega)).trans HY5.out
      have hx6 := (hb6.block _ (by omega)).trans HX5.out
      have hK6 := HK5.out.below2 (by rw [HS.out]; exact hb6)
      have hgb : g6 ≠ w.heap.size + 1 := fun e => by
        have := (ho6.lt g6 rfl).1
        omega
      have z0 := cell_of_row w6 _ 0 _ _ _ hy6
      have z1 := cell_of_row w6 _ 1 _ _ _ hy6
      have z2 := cell_of_row w6 _ 2 _ _ _ hy6
      have z3 := cell_of_row w6 _ 3 _ _ _ hy6
      have zf := fun j => frozen_of_row w6 _ j _ _ hy6
      have hly6 := lt_of_block hy6
      have HX6 := Lib.hid hx6; have HY6 := Lib.hid hy6; have HO6 := Lib.hid hO6; have HK6 := Lib.hid hK6
      clear hx6 hy6 hO6 hK6 ho6 hb6 hg6 y0 y1 y2 y3 yf hgb
      go_wp2_with fail
      go_roundw
      case rel =>
        have e1 := heap_setCell_same w6 (w.heap.size + 1) 3 _ _ (.slice (some ⟨g6, 0, none⟩) (k + 1) c6) HY6.out
        have k1 : Keep (fun j => j = w.heap.size + 1) w6 (w6.setCell ⟨w.heap.size + 1, 3, none⟩ (.slice (some ⟨g6, 0, none⟩) (k + 1) c6)) := Keep.setCell (S := fun j => j = w.heap.size + 1) (Keep.refl _ _) _ (.inr rfl) _
        exact ⟨k + 1, some ⟨g6, 0, none⟩, c6, _, hlt, by go_num, by simpa using e1, (k1.block _ (lt_of_block HX6.out) (by omega)).trans HX6.out, HO6.out.keep k1 (fun j hj => by omega), HK6.out.trans (k1.mono fun j _ h => .inl h)⟩
      case measure => simp [intOf]; omega
    · obtain rfl : E = k := by omega
      have hz := (hK.block _ (by rw [HS.out]; omega) (by omega)).trans HZ.out
      have hBw : Below w.heap.size w wr := HB.out.trans (hK.toBelow (by rw [HS.out]; omega) (fun j hj => by omega))
      obtain ⟨e4, k4⟩ := store4 wr w.heap.size (.int .i64 n) (.int .i64 b) (.int .i64 steps) (.slice Ao E co) hz
      have hO9 := (hO.keep k4 (fun j hj => by omega)).base (show w.heap.size ≤ w.heap.size + 3 by omega)
      have hB9 : Below w.heap.size w ((((wr.setCell ⟨w.heap.size, 0, none⟩ (.int .i64 n)).setCell ⟨w.heap.size, 1, none⟩ (.int .i64 b)).setCell ⟨w.heap.size, 2, none⟩ (.int .i64 steps)).setCell ⟨w.heap.size, 3, none⟩ (.slice Ao E co)) := hBw.trans (k4.toBelow hBw.size (fun j hj => by omega))
      have y0 := cell_of_row wr _ 0 _ _ _ hy
      have y1 := cell_of_row wr _ 1 _ _ _ hy
      have y2 := cell_of_row wr _ 2 _ _ _ hy
      have y3 := cell_of_row wr _ 3 _ _ _ hy
      have yf := fun j => frozen_of_row wr _ j _ _ hy
      have z0 := cell_of_row wr _ 0 _ _ _ hz
      have z1 := cell_of_row wr _ 1 _ _ _ hz
      have z2 := cell_of_row wr _ 2 _ _ _ hz
      have z3 := cell_of_row wr _ 3 _ _ _ hz
      have zf := fun j => frozen_of_row wr _ j _ _ hz
      have E4 := Lib.hid e4; have HO9 := Lib.hid hO9; have HB9 := Lib.hid hB9
      clear e4 k4 hO9 hB9 hO hK hx hy hz hBw
      go_wp2_with fail
      have e3 := E4.out
      have ho9 := HO9.out
      have hb9 := HB9.out
      generalize ((((wr.setCell ⟨w.heap.size, 0, none⟩ (.int .i64 n)).setCell ⟨w.heap.size, 1, none⟩ (.int .i64 b)).setCell ⟨w.heap.size, 2, none⟩ (.int .i64 steps)).setCell ⟨w.heap.size, 3, none⟩ (.slice Ao E co)) = W9 at e3 ho9 hb9 ⊢
      clear y0 y1 y2 y3 yf z0 z1 z2 z3 zf
      have r0 := cell_of_row W9 _ 0 _ _ _ e3
      have r1 := cell_of_row W9 _ 1 _ _ _ e3
      have r2 := cell_of_row W9 _ 2 _ _ _ e3
      have r3 := cell_of_row W9 _ 3 _ _ _ e3
      have rf := fun j => frozen_of_row W9 _ j _ _ e3
      exact bodyPost_ret (v := .tuple #[.agg #[.int .i64 n, .int .i64 b, .int .i64 steps, .slice Ao E co], .int .i64 0]) (by simp [results, Tryz.results65, go_sem, r0, r1, r2, r3]) rfl ⟨_, _, rfl, ⟨_, ho9⟩, hb9⟩
end Go.Proofs.YtfiojofcafjfeaaGreat
namespace Go.Proofs.YtfiojofcafjfeaaGreat
open Go.RowKit

def epI (i : Inp) : Nat := epN i.data.length i.cfg.batch.toNat i.cfg.steps.toNat
def RSamp14Is (i : Inp) (w : World) (e : Ending) (w' : World) : Prop := ∃ A c, e = .returned (.agg #[.int .i64 i.data.length, .int .i64 i.cfg.batch, .int .i64 i.cfg.steps, .slice A (epI i) c]) ∧ (∃ vs, OrdI i.draws i.data.length w.heap.size (epI i) (.slice A (epI i) c) vs w') ∧ Below w.heap.size w w'
set_option maxRecDepth 100000 in
set_option maxHeartbeats 1000000 in
theorem rsamp14_any (A : Option Addr) (c : Nat) (D : Option Addr) (cd : Nat) (T : Option Addr) (ct : Nat) (R : Option Addr) (cr : Nat) (i : Inp) (w : World) (hg : GoodIn i) (hR : Rd w R (nums .u64 i.draws)) (hRl : i.draws.length ≤ 1048576) (hu : U64 i.draws) :
    Calls Tryz.prog 36 #[.agg (inpVals A c D cd T ct R cr i)] w (RSamp14Is i w) := by
  have hgb := hg.b
  have hgd := hg.d
  have hb1 : 1 ≤ i.cfg.batch := by have := hg.c.w; have := hg.c.ba; omega
  have hst := hg.c.st
  have hnew := fun w' (q : Below w.heap.size w w') => rnew12_any i.data.length i.cfg.batch.toNat i.cfg.steps.toNat (epI i) cr R i.draws w' (hR.below q) hRl hu (by omega) (by omega) hgb.2 (by omega) rfl hgd
  rw [Int.toNat_of_nonneg (show 0 ≤ i.cfg.batch by omega), Int.toNat_of_nonneg (show 0 ≤ i.cfg.steps by omega)] at hnew
  have hbl : (w.alloc (.cells (inpVals A c D cd T ct R cr i) 29)).heap.size = w.heap.size + 1 := by simp
  have hbx := blk_new w (inpVals A c D cd T ct R cr i) 29 rfl
  have hb0 : Below w.heap.size w (w.alloc (.cells (inpVals A c D cd T ct R cr i) 29)) := (Below.refl _ w).alloc (Nat.le_refl _) _
  have hbx2 := blk_alloc hbx (.cells #[.int .i64 0, .int .i64 0, .int .i64 0, .slice none 0 0] 83)
  have hby2 := blk_new _ #[.int .i64 0, .int .i64 0, .int .i64 0, .slice none 0 0] 83 hbl
  have hb2 := hb0.alloc (by rw [hbl]; omega) (.cells #[.int .i64 0, .int .i64 0, .int .i64 0, .slice none 0 0] 83)
  obtain ⟨W1, hW1⟩ : ∃ W1, W1 = (w.alloc (.cells (inpVals A c D cd T ct R cr i) 29)).alloc (.cells #[.int .i64 0, .int .i64 0, .int .i64 0, .slice none 0 0] 83) := ⟨_, rfl⟩
  rw [← hW1] at hbx2 hby2 hb2
  have Hq := Lib.hid (show 0 ≤ i.cfg.batch ∧ 0 ≤ i.cfg.steps by omega)
  have HX := Lib.hid hbx2; have HY := Lib.hid hby2; have HB := Lib.hid hb2; have Hnew := Lib.hid hnew
  clear hbx hbx2 hby2 hb2 hnew hb0 hbl hgb hgd hb1 hst hu hRl hR hg
  dsimp only [inpVals] at hW1
  go_enter Tryz.func36, Tryz.ntmps36
  dsimp only [inpVals]
  go_wp2_with fail
  rw [← hW1]
  refine (Hnew.out W1 HB.out).mono ?_
  rintro e w2 ⟨A2, c2, rfl, ⟨vs, hO⟩, hb2⟩
  have hy2 := (hb2.block _ (lt_of_block HY.out)).trans HY.out
  have hB2 := HB.out.trans (hb2.mono HB.out.size)
  rw [Int.toNat_of_nonneg Hq.out.1, Int.toNat_of_nonneg Hq.out.2]
  obtain ⟨e4, k4⟩ := store4 w2 (w.heap.size + 1) (.int .i64 i.data.length) (.int .i64 i.cfg.batch) (.int .i64 i.cfg.steps) (.slice A2 (epI i) c2) hy2
  have e5 := blk_alloc e4 (.cells #[.int .i64 i.data.length, .int .i64 i.cfg.batch, .int .i64 i.cfg.steps, .slice A2 (epI i) c2] 83)
  have hB4 := hB2.trans (k4.toBelow hB2.size (fun j hj => by omega))
  have hB5 := hB4.alloc hB4.size (.cells #[.int .i64 i.data.length, .int .i64 i.cfg.batch, .int .i64 i.cfg.steps, .slice A2 (epI i) c2] 83)
  have hO5 := ((hO.keep k4 (fun j hj => by have := lt_of_block HY.out; omega)).base HB.out.size).below ((Below.refl _ _).alloc (Nat.le_refl _) (.cells #[.int .i64 i.data.length, .int .i64 i.cfg.batch, .int .i64 i.cfg.steps, .slice A2 (epI i) c2] 83))
  have ly := lt_of_block hy2
  have y0 := cell_of_row w2 _ 0 _ _ _ hy2
  have y1 := cell_of_row w2 _ 1 _ _ _ hy2
  have y2 := cell_of_row w2 _ 2 _ _ _ hy2
  have y3 := cell_of_row w2 _ 3 _ _ _ hy2
  have yf := fun j => frozen_of_row w2 _ j _ _ hy2
  have E5 := Lib.hid e5; have HB5 := Lib.hid hB5; have HO5 := Lib.hid hO5
  clear e4 k4 e5 hB4 hB5 hO5 hO hb2 hB2 hy2
  go_wp2_with fail
  have e5 := E5.out; have hB5 := HB5.out; have hO5 := HO5.out
  generalize ((((w2.setCell ⟨w.heap.size + 1, 0, none⟩ (.int .i64 i.data.length)).setCell ⟨w.heap.size + 1, 1, none⟩ (.int .i64 i.cfg.batch)).setCell ⟨w.heap.size + 1, 2, none⟩ (.int .i64 i.cfg.steps)).setCell ⟨w.heap.size + 1, 3, none⟩ (.slice A2 (epI i) c2)).alloc (.cells #[.int .i64 i.data.length, .int .i64 i.cfg.batch, .int .i64 i.cfg.steps, .slice A2 (epI i) c2] 83) = W9 at e5 hB5 hO5 ⊢
  clear y0 y1 y2 y3 yf
  have r0 := cell_of_row W9 _ 0 _ _ _ e5
  have r1 := cell_of_row W9 _ 1 _ _ _ e5
  have r2 := cell_of_row W9 _ 2 _ _ _ e5
  have r3 := cell_of_row W9 _ 3 _ _ _ e5
  have rf := fun j => frozen_of_row W9 _ j _ _ e5
  exact bodyPost_ret (v := .agg #[.int .i64 i.data.length, .int .i64 i.cfg.batch, .int .i64 i.cfg.steps, .slice A2 (epI i) c2]) (by simp [results, Tryz.results36, go_sem, r0, r1, r2, r3]) rfl ⟨_, _, rfl, ⟨_, hO5⟩, hB5⟩
end Go.Proofs.YtfiojofcafjfeaaGreat
