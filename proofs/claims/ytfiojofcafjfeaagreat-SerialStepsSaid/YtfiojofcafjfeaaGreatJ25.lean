/- fixp.Sum: a range over an iterator over a slice. Steps of the parameters, in plain lists. No condition. -/
import Derived.Test.YtfiojofcafjfeaaGreatJ06
set_option linter.unusedSimpArgs false
set_option linter.unusedVariables false
namespace Go.Proofs.YtfiojofcafjfeaaGreat
open Go.RowKit Go.Shelf
attribute [local go_sem] Oper.semAt_some

/-- The sum, from the front. -/
def sumW (l : List Int) : Int := l.foldl (fun a x => wrap64 (a + x)) 0
theorem sumW_snoc (l : List Int) (x : Int) : sumW (l ++ [x]) = wrap64 (sumW l + x) := by simp [sumW]
def valEnc (zs : List Int) {m : Nat} (k : Fin m) : Array Value := #[.int .i64 (nth zs k.1)]
theorem val_fin {zs : List Int} {m : Nat} (h : zs.length = m) : ((List.finRange m).map fun k => nth zs k.1) = zs := by
  refine ext_nth (by simp [h]) fun k hk => ?_
  rw [nth_eq _ _ hk]
  simp
theorem ownFrom_blk {β : Type} (B b : Nat) (o : List β → Obj) (ho : ∀ p, (o p).isCells = true) : OwnFrom B (fun (p : List β) W => W.heap[b]? = some (o p)) := fun p W W' row hs hg hr => ownFrom_block (β := List β) B b (o p) (ho p) p W W' row hs hg hr

set_option maxRecDepth 100000 in
set_option maxHeartbeats 2000000 in
theorem vals1_in (n l Bm n₀ m d : Nat) (A : Option Addr) (zs : List Int) (hzl : zs.length = m) (hm : m ≤ 1048576) (hB0 : Bm < n₀) (hA0 : ∀ a, A = some a → a.block < n₀) (J Jx : List (Fin m) → World → Prop)
    (hY : ∀ pre x W, J pre W → pre.length < m → YieldAt Fence.wide (n - 1) Tryz.prog l (valEnc zs x) W fun e W' =>
      (e = .returned (.bool true) ∧ J (pre ++ [x]) W' ∧ RowsKeep n₀ Bm W W') ∨ (e = .returned (.bool false) ∧ Jx (pre ++ [x]) W'))
    (W : World) (hBm : W.heap[Bm]? = some (.cells #[.slice A m d] 26 (0, 0))) (hA : Rd W A (nums .i64 zs)) (h0 : J [] W) :
    CallsIn Fence.wide n Tryz.prog 154 #[.func (.yield l) #[] #[], .pointer (some ⟨Bm, 0, none⟩)] W fun e W' => (∃ v, e = .returned v) ∧
      ((∃ ys, ys = List.finRange m ∧ J ys W') ∨ (∃ pre, True ∧ Jx pre W')) := by
  have e0 := cell_of_row W _ 0 _ _ _ hBm
  have ef := fun j => frozen_of_row W _ j _ _ hBm
  have HBm := Lib.hid hBm; have HA := Lib.hid hA; have Hzl := Lib.hid hzl; have HA0 := Lib.hid hA0; clear hBm hA hzl hA0
  refine callsIn_of_wp Tryz.func154 rfl trivial ?_ rfl
  simp only [Tryz.ntmps154, List.size_toArray, List.length_cons, List.length_nil, Nat.reduceAdd, Nat.reduceSub, Array.replicate_succ, Array.replicate_zero, List.push_toArray, List.append_toArray, List.nil_append, List.cons_append]
  gi_wp2
  gi_loopw [7] (fun i wr => ∃ k : Nat, k ≤ m ∧ i = .int .i64 k ∧ J ((List.finRange m).take k) wr ∧ Rd wr A (nums .i64 zs))
    (fun i _ => m - (intOf i).toNat)
  case atStart => exact ⟨0, Nat.zero_le _, rfl, h0, HA.out⟩
  case round =>
    obtain ⟨k, hk, rfl, hJs, hAk⟩ := hrel
    clear e0 ef
    by_cases hlt : k < m
    · have hlen : ((List.finRange m).take k).length < m := by simp; omega
      have HAk := Lib.hid hAk
      obtain ⟨b, o, rfl, p⟩ := hAk.num (show k < zs.length by rw [Hzl.out]; exact hlt)
      obtain ⟨fn, tmps, assign, body, hy, hR⟩ := hY _ ⟨k, hlt⟩ wr hJs hlen
      unfold valEnc at hy
      dsimp only at hy
      clear hAk hJs
      gi_wp2
      refine ⟨(fun h => by cases h), ?_⟩
      refine hR.mono ?_
      rintro e w5 (⟨rfl, hJ5, hk5⟩ | ⟨rfl, hJx5⟩)
      · have hA5 := HAk.out.belowB hk5.1 HA0.out
        have HA5 := Lib.hid hA5; have HJ5 := Lib.hid hJ5; clear hA5 hJ5 hk5 p
        gi_wp2
        go_roundw
        case rel => exact ⟨k + 1, by omega, by go_num, by rw [finTake hlt]; exact HJ5.out, HA5.out⟩
        case measure => simp [intOf]; omega
      · gi_wp2
        refine bodyPost_ret (results_none rfl _ _ _) rfl ?_
        exact ⟨⟨_, rfl⟩, .inr ⟨_, trivial, hJx5⟩⟩
    · obtain rfl : k = m := by omega
      have hall : (List.finRange k).take k = List.finRange k := List.take_of_length_le (by simp)
      rw [hall] at hJs
      have HJs := Lib.hid hJs; clear hJs hall hAk
      gi_wp2
      go_end0
      exact ⟨⟨_, rfl⟩, .inl ⟨_, rfl, HJs.out⟩⟩

theorem vals_stops (n Bm n₀ m d : Nat) (A : Option Addr) (zs : List Int) (hzl : zs.length = m) (hm : m ≤ 1048576) (hB0 : Bm < n₀) (hA0 : ∀ a, A = some a → a.block < n₀) (w : World)
    (hBm : w.heap[Bm]? = some (.cells #[.slice A m d] 26 (0, 0))) (hA : Rd w A (nums .i64 zs)) :
    SeqStopsK Fence.wide n Tryz.prog 154 #[.pointer (some ⟨Bm, 0, none⟩)] (valEnc zs (m := m)) (RowsKeep n₀ Bm) (fun ys => ys = List.finRange m) (fun _ => True) m w := fun l J Jx W hW _ _ hY h0 =>
  vals1_in n l Bm n₀ m d A zs hzl hm hB0 hA0 J Jx hY W ((hW.block _ (lt_of_block hBm)).trans hBm) (hA.below hW) h0

set_option maxRecDepth 100000 in
set_option maxHeartbeats 2000000 in
theorem total_any (Bm m d : Nat) (A : Option Addr) (zs : List Int) (w : World) (hBm : w.heap[Bm]? = some (.cells #[.slice A m d] 26 (0, 0))) (hA : Rd w A (nums .i64 zs)) (hzl : zs.length = m) (hm : m ≤ 1048576) (hA0 : ∀ a, A = some a → a.block < w.heap.size) :
    Calls Tryz.prog 152 #[.func (.func 154) #[] #[.pointer (some ⟨Bm, 0, none⟩)]] w fun e w' => e = .returned (.int .i64 (sumW zs)) ∧ Below w.heap.size w w' := by
  have hBl := lt_of_block hBm
  have hst := vals_stops 2 Bm w.heap.size m d A zs hzl hm hBl hA0 (w.alloc (.cells #[.int .i64 0] 2)) ((Below.heap_alloc w _ _ hBl).trans hBm) (hA.alloc _)
  have Hst := Lib.hid hst; have Hzl := Lib.hid hzl; clear hst hBm hA hzl hA0
  refine (callsIn_wide (n := 3)).1 ?_
  refine callsIn_of_wp_marks Tryz.func152 rfl trivial ?_ rfl
  simp only [Tryz.ntmps152, List.size_toArray, List.length_cons, List.length_nil, Nat.reduceAdd, Nat.reduceSub, Array.replicate_succ, Array.replicate_zero, List.push_toArray, List.append_toArray, List.nil_append, List.cons_append]
  gi_wp2_with fail
  refine' wpIn_rangeFunc_ownG (F := Fence.wide) (n := 3) rfl (by omega) (gf := 154) (lb := #[.pointer (some ⟨Bm, 0, none⟩)]) rfl trivial (enters_of Tryz.func154 (by kernel_rfl) rfl)
    Hst.out rowsKeep_t (rowsKeep_b (by simp) (by simp; omega)) (Below.refl _ _) (fun _ => rfl)
    (fun (pre : List (Fin m)) W => (W.heap[w.heap.size]? = some (.cells #[.int .i64 (sumW (pre.map fun k => nth zs k.1))] 2 (0, 0))) ∧ Below w.heap.size w W)
    (fun _ _ _ => False)
    (OwnFrom.and (ownFrom_blk _ _ (fun pre : List (Fin m) => .cells #[.int .i64 (sumW (pre.map fun k => nth zs k.1))] 2 (0, 0)) (fun _ => rfl)) (ownFrom_below (Nat.le_refl _) (by simp)))
    (fun _ _ _ _ _ hs _ _ => hs)
    ⟨heap_alloc_new w _, (Below.refl _ w).alloc (Nat.le_refl _) _⟩
    _ ?assign ?body ?done ?stop
  case assign =>
    intro l x W K hK
    unfold valEnc
    gi_wp2
    exact hK
  case body =>
    rintro l pre x W ⟨hS, hBlw⟩ hlt
    obtain ⟨sv, hsv⟩ : ∃ sv, sumW (pre.map fun k => nth zs k.1) = sv := ⟨_, rfl⟩
    obtain ⟨xv, hxv⟩ : ∃ xv, nth zs x.1 = xv := ⟨_, rfl⟩
    rw [hsv] at hS
    have p0 := cell_of_row W _ 0 _ _ _ hS
    have pf := fun j => frozen_of_row W _ j _ _ hS
    have hSl := lt_of_block hS
    have HS := Lib.hid hS; have HB := Lib.hid hBlw; have Hsv := Lib.hid hsv; have Hxv := Lib.hid hxv; clear hS hBlw hlt hsv
    simp only [hxv]
    clear hxv
    gi_wp2_with fail
    have hk : Keep (fun j => j = w.heap.size) W (W.setCell ⟨w.heap.size, 0, none⟩ (.int .i64 (wrap64 (sv + xv)))) := Keep.setCell (S := fun j => j = w.heap.size) (Keep.refl _ _) ⟨w.heap.size, 0, none⟩ (.inr rfl) _
    have hb : Below w.heap.size W (W.setCell ⟨w.heap.size, 0, none⟩ (.int .i64 (wrap64 (sv + xv)))) := hk.toBelow HB.out.size (fun j hj => by omega)
    refine ⟨(others_keep hk (fun k o hs hk' => by rw [hs, HS.out] at hk'; injection hk' with e; subst e; rfl)).from _, ⟨hb, fun h => hk.block Bm h (by omega)⟩, ?_, HB.out.trans hb⟩
    rw [List.map_append, List.map_cons, List.map_nil, sumW_snoc, Hsv.out, Hxv.out]
    exact heap_setCell_same W w.heap.size 0 _ _ _ HS.out
  case done =>
    rintro D ys W hD rfl ⟨hS, hBlw⟩ hK
    rw [val_fin Hzl.out] at hS
    have p0 := cell_of_row W _ 0 _ _ _ hS
    have pf := fun j => frozen_of_row W _ j _ _ hS
    gi_wp2
    refine ⟨by simp, .inl ⟨_, _, rfl, run_takeDeferred hK, ?_⟩⟩
    exact ⟨.int .i64 (sumW zs), by simp [results, Tryz.results152, go_sem], rfl, hBlw.trans (belowK_b (w := w) (Nat.le_refl _) W D _ _ (by simp at hD; omega) hK rfl rfl)⟩
  case stop =>
    rintro D c pre W _ _ h _
    exact h.elim

theorem vals_any (A : Option Addr) (m d : Nat) (w : World) :
    Calls Tryz.prog 153 #[.slice A m d] w fun e w' => e = .returned (.func (.func 154) #[] #[.pointer (some ⟨w.heap.size, 0, none⟩)]) ∧ w' = w.alloc (.cells #[.slice A m d] 26) := by
  go_enter Tryz.func153, Tryz.ntmps153
  go_wp2
  go_ret
  exact ⟨rfl, rfl⟩
theorem fsum_any (A : Option Addr) (m d : Nat) (zs : List Int) (w : World) (hA : Rd w A (nums .i64 zs)) (hzl : zs.length = m) (hm : m ≤ 1048576) (hA0 : ∀ a, A = some a → a.block < w.heap.size) :
    Calls Tryz.prog 149 #[.slice A m d] w fun e w' => e = .returned (.int .i64 (sumW zs)) ∧ Below w.heap.size w w' := by
  have ht := total_any w.heap.size m d A zs (w.alloc (.cells #[.slice A m d] 26)) (heap_alloc_new w _) (hA.alloc _) hzl hm (fun a ha => by have := hA0 a ha; simp; omega)
  have Ht := Lib.hid ht; clear ht hA hzl hA0
  go_enter Tryz.func149, Tryz.ntmps149
  go_wp2_with fail
  refine (vals_any A m d w).mono ?_
  rintro e w1 ⟨rfl, rfl⟩
  go_wp2_with fail
  refine Ht.out.mono ?_
  rintro e w2 ⟨rfl, hb⟩
  have Hb := Lib.hid (((Below.refl _ w).alloc (Nat.le_refl _) _).trans (hb.mono (by simp))); clear hb
  go_wp2
  go_ret
  exact ⟨rfl, Hb.out⟩
end Go.Proofs.YtfiojofcafjfeaaGreat
namespace Go.Proofs.YtfiojofcafjfeaaGreat
open Go.RowKit

theorem sumW_two (a b : Int) : sumW [a, b] = wrap64 (a + b) := by
  show wrap64 (wrap64 (0 + a) + b) = wrap64 (a + b)
  unfold wrap64
  omega
/-- A momentum behind a step. -/
def stepM (mo q m g : Int) : Int := wrap64 (mulQ mo m q + g)
/-- A parameter behind a step, m being the momentum behind it. -/
def stepP (ra q p m : Int) : Int := wrap64 (p - mulQ ra m q)
/-- Where k of the numbers from lo on are renewed. -/
def apM (mo q : Int) (ms g : List Int) (lo k : Nat) : List Int := upTo ms.length fun j => if lo ≤ j ∧ j < lo + k then stepM mo q (nth ms j) (nth g (j - lo)) else nth ms j
def apP (ra mo q : Int) (ps ms g : List Int) (lo k : Nat) : List Int := upTo ps.length fun j => if lo ≤ j ∧ j < lo + k then stepP ra q (nth ps j) (stepM mo q (nth ms j) (nth g (j - lo))) else nth ps j
theorem apM_zero (mo q : Int) (ms g : List Int) (lo : Nat) : apM mo q ms g lo 0 = ms := (eq_upTo rfl fun k _ => by rw [if_neg (by omega)]).symm
theorem apP_zero (ra mo q : Int) (ps ms g : List Int) (lo : Nat) : apP ra mo q ps ms g lo 0 = ps := (eq_upTo rfl fun k _ => by rw [if_neg (by omega)]).symm
theorem apM_len (mo q : Int) (ms g : List Int) (lo k : Nat) : (apM mo q ms g lo k).length = ms.length := upTo_len _ _
theorem apP_len (ra mo q : Int) (ps ms g : List Int) (lo k : Nat) : (apP ra mo q ps ms g lo k).length = ps.length := upTo_len _ _
theorem apM_at (mo q : Int) (ms g : List Int) (lo k : Nat) (h : lo + k < ms.length) : nth (apM mo q ms g lo k) (lo + k) = nth ms (lo + k) := by
  unfold apM; rw [upTo_nth _ h, if_neg (by omega)]
theorem apP_at (ra mo q : Int) (ps ms g : List Int) (lo k : Nat) (h : lo + k < ps.length) : nth (apP ra mo q ps ms g lo k) (lo + k) = nth ps (lo + k) := by
  unfold apP; rw [upTo_nth _ h, if_neg (by omega)]
theorem apM_set (mo q : Int) (ms g : List Int) (lo k : Nat) (h : lo + k < ms.length) : (apM mo q ms g lo k).set (lo + k) (stepM mo q (nth ms (lo + k)) (nth g k)) = apM mo q ms g lo (k + 1) := by
  refine ext_nth (by simp [apM_len]) fun j hj => ?_
  rw [List.length_set, apM_len] at hj
  rw [nth_set, apM_len]
  unfold apM
  rw [upTo_nth _ hj, upTo_nth _ hj]
  by_cases h1 : j = lo + k
  · subst h1
    rw [if_pos ⟨rfl, h⟩, if_pos (by omega), show lo + k - lo = k by omega]
  · rw [if_neg (by omega)]
    by_cases h2 : lo ≤ j ∧ j < lo + k
    · rw [if_pos h2, if_pos (by omega)]
    · rw [if_neg h2, if_neg (by omega)]
theorem apP_set (ra mo q : Int) (ps ms g : List Int) (lo k : Nat) (h : lo + k < ps.length) : (apP ra mo q ps ms g lo k).set (lo + k) (stepP ra q (nth ps (lo + k)) (stepM mo q (nth ms (lo + k)) (nth g k))) = apP ra mo q ps ms g lo (k + 1) := by
  refine ext_nth (by simp [apP_len]) fun j hj => ?_
  rw [List.length_set, apP_len] at hj
  rw [nth_set, apP_len]
  unfold apP
  rw [upTo_nth _ hj, upTo_nth _ hj]
  by_cases h1 : j = lo + k
  · subst h1
    rw [if_pos ⟨rfl, h⟩, if_pos (by omega), show lo + k - lo = k by omega]
  · rw [if_neg (by omega)]
    by_cases h2 : lo ≤ j ∧ j < lo + k
    · rw [if_pos h2, if_pos (by omega)]
    · rw [if_neg h2, if_neg (by omega)]
theorem apM_W64 {mo q : Int} {ms g : List Int} {lo k : Nat} (h : W64 ms) : W64 (apM mo q ms g lo k) := upTo_W64 fun j hj => by
  split
  · exact wrap64_bd _
  · exact h j hj
/-- The whole step. -/
def nextM (mo q : Int) (ms g : List Int) : List Int := upTo ms.length fun j => stepM mo q (nth ms j) (nth g j)
def nextP (ra mo q : Int) (ps ms g : List Int) : List Int := upTo ps.length fun j => stepP ra q (nth ps j) (stepM mo q (nth ms j) (nth g j))
theorem apM_all (mo q : Int) (ms g : List Int) : apM mo q ms g 0 ms.length = nextM mo q ms g := upTo_congr fun k hk => by rw [if_pos (by omega), Nat.sub_zero]
theorem apP_all (ra mo q : Int) (ps ms g : List Int) : apP ra mo q ps ms g 0 ps.length = nextP ra mo q ps ms g := upTo_congr fun k hk => by rw [if_pos (by omega), Nat.sub_zero]
theorem nextM_len (mo q : Int) (ms g : List Int) : (nextM mo q ms g).length = ms.length := upTo_len _ _
theorem nextP_len (ra mo q : Int) (ps ms g : List Int) : (nextP ra mo q ps ms g).length = ps.length := upTo_len _ _
theorem nextM_W64 (mo q : Int) (ms g : List Int) : W64 (nextM mo q ms g) := upTo_W64 fun _ _ => wrap64_bd _
theorem nextP_W64 (ra mo q : Int) (ps ms g : List Int) : W64 (nextP ra mo q ps ms g) := upTo_W64 fun _ _ => wrap64_bd _
end Go.Proofs.YtfiojofcafjfeaaGreat
