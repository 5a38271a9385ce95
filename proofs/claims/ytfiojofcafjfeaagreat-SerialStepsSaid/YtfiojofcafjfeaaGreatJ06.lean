/- The walks of package mat: the small functions. The iterator over the rows of a matrix. Loops over iterators: what a round that appends keeps. Matrix.Mul. No condition. -/
import Derived.Test.YtfiojofcafjfeaaGreatJ05
import Derived.StillTailTactics
import Derived.RangeFuncNested
import Derived.RangeFuncBound
import Derived.RangeFuncCalls
import Derived.RangeFuncLeaves
import Derived.RangeFuncBox
import Derived.Shelf.Abstract
import Derived.WalkKit
import Derived.OwnWalkIn
import Derived.TacticsInMore
import Derived.LoopNIn
import Derived.LoopIn
import Derived.Test.YtfiojofcafjfeaaGreatJ02
import Derived.Maps.AppendAt
set_option linter.unusedSimpArgs false
set_option linter.unusedVariables false
namespace Go.Proofs.YtfiojofcafjfeaaGreat
open Go.RowKit

theorem sides_any (r c : Int) (w : World) (hr : 1 ≤ r ∧ r ≤ 1048576) (hc : 1 ≤ c ∧ c ≤ 1048576) : Calls Tryz.prog 144 #[.int .i64 r, .int .i64 c] w fun e w' => e = .returned (.bool true) ∧ w = w' := by
  obtain ⟨h1, h2⟩ := hr
  obtain ⟨h3, h4⟩ := hc
  go_enter Tryz.func144, Tryz.ntmps144
  go_wp2
  go_ret
  exact ⟨ret_bool (by simp [*]), rfl⟩

theorem right_any (r c : Nat) (A : Option Addr) (n d : Nat) (w : World) (hr : 1 ≤ r ∧ r ≤ 1048576) (hc : 1 ≤ c ∧ c ≤ 1048576) (hn : n = r * c) (hm : n ≤ 17592186043904) :
    Calls Tryz.prog 128 #[.agg #[.int .i64 r, .int .i64 c, .slice A n d]] w fun e w' => e = .returned (.bool true) ∧ w' = w.alloc (.cells #[.int .i64 r, .int .i64 c, .slice A n d] 172) := by
  have hs := fun w' => sides_any r c w' (by omega) (by omega)
  have hmul : (r : Int) * (c : Int) = (n : Int) := by rw [hn]; simp
  have hm1 : 0 ≤ (r : Int) * (c : Int) ∧ (r : Int) * (c : Int) ≤ 17592186043904 := by omega
  have hq : ((n : Int) == IntKind.i64.wrap ((r : Int) * (c : Int))) = true := by rw [IntWalk.i64_in _ (by omega), hmul]; simp
  have hq2 : ((n : Int) == (r : Int) * (c : Int)) = true := by rw [hmul]; simp
  have Hs := Lib.hid hs; clear hs hmul hn
  go_enter Tryz.func128, Tryz.ntmps128
  go_wp2_with fail
  refine (Hs.out _).mono ?_
  rintro e w1 ⟨rfl, rfl⟩
  go_wp2_with fail
  all_goals
    go_ret
    exact ⟨ret_bool (by first | rfl | simp [*]), rfl⟩

theorem of_any (r c : Nat) (A : Option Addr) (zs : List Int) (d : Nat) (w : World) (hr : 1 ≤ r ∧ r ≤ 1048576) (hc : 1 ≤ c ∧ c ≤ 1048576) (hn : zs.length = r * c) (hm : zs.length ≤ 17592186043904) (hA : Rd w A (nums .i64 zs)) :
    Calls Tryz.prog 124 #[.int .i64 r, .int .i64 c, .slice A zs.length d] w fun e w' => ∃ A' d', e = .returned (.tuple #[.agg #[.int .i64 r, .int .i64 c, .slice A' zs.length d'], .bool true]) ∧ zs.length ≤ d' ∧ w'.ownsRow w.heap.size 2 1 (.slice A' zs.length d') zs.length (nums .i64 zs) ∧ Below w.heap.size w w' := by
  have hcl := fun w' (k : Below w.heap.size w w') => vclone_any A zs d w' (hA.below k) hm
  obtain ⟨n, hnn⟩ : ∃ n, zs.length = n := ⟨_, rfl⟩
  rw [hnn] at hcl hn hm ⊢
  have hrt := fun A' d' w' => right_any r c A' n d' w' hr hc hn hm
  have Hc := Lib.hid hcl; have Hr := Lib.hid hrt; clear hcl hrt hnn hA hn
  go_enter Tryz.func124, Tryz.ntmps124
  go_wp2_with fail
  refine (Hc.out _ ?_).mono ?_
  · (focus (repeat' (first | (with_reducible exact Below.refl _ _) | (with_reducible assumption) | (with_reducible refine Below.setCell ?_ ?_ _) | (with_reducible refine Below.alloc ?_ ?_ _) | (with_reducible refine below_drewN ?_ _) | (with_reducible refine Below.drew ?_) | (with_reducible exact Nat.le_refl _) | omega | (simp; done) | (simp; omega))))
  rintro e w1 ⟨A', d', rfl, hd, hown, hb⟩
  have hres := (hb.block w.heap.size (by simp)).trans (heap_alloc_new w _)
  have r0 := cell_of_row w1 _ 0 _ _ _ hres
  have r1 := cell_of_row w1 _ 1 _ _ _ hres
  have r2 := cell_of_row w1 _ 2 _ _ _ hres
  have rf := fun j => frozen_of_row w1 _ j _ _ hres
  have hs1 : w.heap.size < w1.heap.size := lt_of_block hres
  have HO := Lib.hid (own_base hown (base' := w.heap.size) (by simp)); have HD := Lib.hid hd; have HW := Lib.hid (Below.trans ((Below.refl _ w).alloc (Nat.le_refl _) _) (hb.mono (by simp))); have Hob := Lib.hid hown; clear hown hd hb hres
  go_wp2_with fail
  refine (Hr.out _ _ _).mono ?_
  rintro e w2 ⟨rfl, rfl⟩
  go_wp2_with fail
  refine bodyPost_ret (v := .tuple #[.agg #[.int .i64 r, .int .i64 c, .slice A' n d'], .bool true]) (by simp [results, Tryz.results124, go_sem, r0, r1, r2, hs1]) rfl ⟨A', d', rfl, HD.out, ?_, ?_⟩
  · refine own_base (Keep.own (S := fun i => i = w.heap.size) (w := w1) ?_ Hob.out (fun k hk e => by have := (Hob.out.lt k hk).1; simp at this; omega)) (by simp)
    (focus (repeat' (first | (with_reducible exact Keep.refl _ _) | (with_reducible assumption) | (with_reducible refine Keep.setCell ?_ _ ?_ _) | (with_reducible refine Keep.alloc ?_ _) | (with_reducible refine Keep.drewN ?_ _) | (with_reducible refine Keep.drew ?_) | (with_reducible exact Or.inr (linkS_b _ _)) | (with_reducible exact Or.inr (linkS_g _ _)) | (refine Or.inr ?_; first | rfl | (simp; done) | omega) | (refine Or.inl ?_; first | omega | (simp; done) | (simp; omega)))))
  · have hW := HW.out
    (focus (repeat' (first | (with_reducible exact Below.refl _ _) | (with_reducible assumption) | (with_reducible refine Below.setCell ?_ ?_ _) | (with_reducible refine Below.alloc ?_ ?_ _) | (with_reducible refine below_drewN ?_ _) | (with_reducible refine Below.drew ?_) | (with_reducible exact Nat.le_refl _) | omega | (simp; done) | (simp; omega))))

/-- A row of a matrix: where it lies. -/
theorem row_any (r c k : Nat) (g o n d : Nat) (w : World) (hr : r ≤ 1048576) (hc : 1 ≤ c ∧ c ≤ 1048576) (hk : k < r) (hn : n = r * c) (hd : n ≤ d) :
    Calls Tryz.prog 146 #[.agg #[.int .i64 r, .int .i64 c, .slice (some ⟨g, o, none⟩) n d], .int .i64 k] w fun e w' => e = .returned (.slice (some ⟨g, o + k * c, none⟩) c c) ∧ Below w.heap.size w w' := by
  have h1 : k * c + c ≤ n := by rw [hn]; have := Nat.mul_le_mul_right c (show k + 1 ≤ r by omega); rw [Nat.succ_mul] at this; exact this
  have h2 : k * c ≤ 1048576 * 1048576 := Nat.mul_le_mul (by omega) (by omega)
  have e1 : (k : Int) * (c : Int) = ((k * c : Nat) : Int) := (Int.natCast_mul k c).symm
  have e2 : ((k : Int) + 1) * (c : Int) = ((k * c + c : Nat) : Int) := by rw [Int.add_mul, e1]; simp
  obtain ⟨p, hp⟩ : ∃ p, k * c = p := ⟨_, rfl⟩
  rw [hp] at h1 h2 e1 e2 ⊢
  clear hp hn
  go_enter Tryz.func146, Tryz.ntmps146
  go_wp2_with fail
  go_quiet (fail)
  have hx1 : ¬ (p + c = p) := by omega
  go_wp2
  rw [show p + c - p = c by omega]
  go_ret
  refine ⟨rfl, ?_⟩
  (focus (repeat' (first | (with_reducible exact Below.refl _ _) | (with_reducible assumption) | (with_reducible refine Below.setCell ?_ ?_ _) | (with_reducible refine Below.alloc ?_ ?_ _) | (with_reducible refine below_drewN ?_ _) | (with_reducible refine Below.drew ?_) | (with_reducible exact Nat.le_refl _) | omega | (simp; done) | (simp; omega))))

theorem rows_any (cs : Array Value) (w : World) : Calls Tryz.prog 129 #[.agg cs] w fun e w' => e = .returned (.func (.func 145) #[] #[.pointer (some ⟨w.heap.size, 0, none⟩)]) ∧ w' = w.alloc (.cells cs 172) := by
  go_enter Tryz.func129, Tryz.ntmps129
  go_wp2
  go_ret
  exact ⟨rfl, rfl⟩
end Go.Proofs.YtfiojofcafjfeaaGreat
namespace Go.Proofs.YtfiojofcafjfeaaGreat
open Go.RowKit Go.Shelf
attribute [local go_sem] Oper.semAt_some

/-- Row k as the loop's two variables. -/
def rowEnc (g o c : Nat) {r : Nat} (k : Fin r) : Array Value := #[.int .i64 (k.1 : Int), .slice (some ⟨g, o + k.1 * c, none⟩) c c]
/-- What a round that goes on keeps: what lay below n₀, and the block Bm. -/
def RowsKeep (n₀ Bm : Nat) (W W' : World) : Prop := Below n₀ W W' ∧ (Bm < W.heap.size → W'.heap[Bm]? = W.heap[Bm]?)
theorem finTake {r k : Nat} (h : k < r) : (List.finRange r).take (k + 1) = (List.finRange r).take k ++ [⟨k, h⟩] := by
  rw [List.take_add_one]
  simp [h]
theorem grown_none {w w' : World} (h : Below w.heap.size w w') : w.grownBy w' none := ⟨h.os, h.tape, h.output, h.size, fun k hk _ => h.block k hk⟩

set_option maxRecDepth 100000 in
set_option maxHeartbeats 2000000 in
theorem rows1_in (n l Bm n₀ g o r c nn d : Nat) (hr : r ≤ 1048576) (hc : 1 ≤ c ∧ c ≤ 1048576) (hnn : nn = r * c) (hd : nn ≤ d) (J Jx : List (Fin r) → World → Prop) (B : Nat) (hJ : AbidesFrom B J)
    (hY : ∀ pre x W, J pre W → pre.length < r → YieldAt Fence.wide (n - 1) Tryz.prog l (rowEnc g o c x) W fun e W' =>
      (e = .returned (.bool true) ∧ J (pre ++ [x]) W' ∧ RowsKeep n₀ Bm W W') ∨ (e = .returned (.bool false) ∧ Jx (pre ++ [x]) W'))
    (W : World) (hBm : W.heap[Bm]? = some (.cells #[.int .i64 r, .int .i64 c, .slice (some ⟨g, o, none⟩) nn d] 172 (0, 0))) (h0 : J [] W) :
    CallsIn Fence.wide n Tryz.prog 145 #[.func (.yield l) #[] #[], .pointer (some ⟨Bm, 0, none⟩)] W fun e W' => (∃ v, e = .returned v) ∧
      ((∃ ys, ys = List.finRange r ∧ J ys W') ∨ (∃ pre, True ∧ Jx pre W')) := by
  have e0 := cell_of_row W _ 0 _ _ _ hBm
  have e1 := cell_of_row W _ 1 _ _ _ hBm
  have e2 := cell_of_row W _ 2 _ _ _ hBm
  have ef := fun j => frozen_of_row W _ j _ _ hBm
  have HBm := Lib.hid hBm; have Hnn := Lib.hid hnn; clear hBm hnn
  refine callsIn_of_wp Tryz.func145 rfl trivial ?_ rfl
  simp only [Tryz.ntmps145, List.size_toArray, List.length_cons, List.length_nil, Nat.reduceAdd, Nat.reduceSub, Array.replicate_succ, Array.replicate_zero, List.push_toArray, List.append_toArray, List.nil_append, List.cons_append]
  gi_wp2
  gi_loopw [6] (fun i wr => ∃ k : Nat, k ≤ r ∧ i = .int .i64 k ∧ J ((List.finRange r).take k) wr ∧ wr.heap[Bm]? = some (.cells #[.int .i64 r, .int .i64 c, .slice (some ⟨g, o, none⟩) nn d] 172 (0, 0)))
    (fun i _ => r - (intOf i).toNat)
  case atStart => exact ⟨0, Nat.zero_le _, rfl, h0, HBm.out⟩
  case round =>
    obtain ⟨k, hk, rfl, hJs, hBk⟩ := hrel
    clear e0 e1 e2 ef
    by_cases hlt : k < r
    · have hlen : ((List.finRange r).take k).length < r := by simp; omega
      have e0 := cell_of_row wr _ 0 _ _ _ hBk
      have e1 := cell_of_row wr _ 1 _ _ _ hBk
      have e2 := cell_of_row wr _ 2 _ _ _ hBk
      have ef := fun j => frozen_of_row wr _ j _ _ hBk
      have hrw := row_any r c k g o nn d wr hr hc hlt Hnn.out hd
      have HJs := Lib.hid hJs; have HBk := Lib.hid hBk; have Hrw := Lib.hid hrw; clear hJs hBk hrw
      gi_wp2_with fail
      refine ⟨trivial, (fun h => by cases h), ?_⟩
      refine (callsIn_wide.2 Hrw.out).mono ?_
      rintro e w3 ⟨rfl, hb3⟩
      have hJ3 := hJ _ _ _ none HJs.out (grown_none hb3) (fun _ h => by cases h)
      have hBk3 := (hb3.block _ (lt_of_block HBk.out)).trans HBk.out
      obtain ⟨fn, tmps, assign, body, hy, hR⟩ := hY _ ⟨k, hlt⟩ w3 hJ3 hlen
      unfold rowEnc at hy
      dsimp only at hy
      have HBk3 := Lib.hid hBk3; clear hJ3 hBk3 hb3
      gi_wp2
      refine ⟨(fun h => by cases h), ?_⟩
      refine hR.mono ?_
      rintro e w5 (⟨rfl, hJ5, hk5⟩ | ⟨rfl, hJx5⟩)
      · have hB5 := (hk5.2 (lt_of_block HBk3.out)).trans HBk3.out
        have HB5 := Lib.hid hB5; have HJ5 := Lib.hid hJ5; clear hB5 hJ5 hk5
        gi_wp2
        go_roundw
        case rel => exact ⟨k + 1, by omega, by go_num, by rw [finTake hlt]; exact HJ5.out, HB5.out⟩
        case measure => simp [intOf]; omega
      · gi_wp2
        refine bodyPost_ret (results_none rfl _ _ _) rfl ?_
        exact ⟨⟨_, rfl⟩, .inr ⟨_, trivial, hJx5⟩⟩
    · obtain rfl : k = r := by omega
      have hall : (List.finRange k).take k = List.finRange k := List.take_of_length_le (by simp)
      rw [hall] at hJs
      have HJs := Lib.hid hJs; clear hJs hall
      gi_wp2
      go_end0
      exact ⟨⟨_, rfl⟩, .inl ⟨_, rfl, HJs.out⟩⟩

/-- **The rows of a matrix, as a value that is ranged over.** -/
theorem rows_stops (n Bm n₀ g o r c nn d : Nat) (hr : r ≤ 1048576) (hc : 1 ≤ c ∧ c ≤ 1048576) (hnn : nn = r * c) (hd : nn ≤ d) (w : World)
    (hBm : w.heap[Bm]? = some (.cells #[.int .i64 r, .int .i64 c, .slice (some ⟨g, o, none⟩) nn d] 172 (0, 0))) :
    SeqStopsK Fence.wide n Tryz.prog 145 #[.pointer (some ⟨Bm, 0, none⟩)] (rowEnc (r := r) g o c) (RowsKeep n₀ Bm) (fun ys => ys = List.finRange r) (fun _ => True) r w := fun l J Jx W hW hJ _ hY h0 =>
  rows1_in n l Bm n₀ g o r c nn d hr hc hnn hd J Jx _ hJ hY W ((hW.block _ (lt_of_block hBm)).trans hBm) h0
end Go.Proofs.YtfiojofcafjfeaaGreat
namespace Go.Proofs.YtfiojofcafjfeaaGreat
open Go.RowKit Go.Shelf

theorem rowsKeep_t {n₀ Bm : Nat} {A B C : World} (h : RowsKeep n₀ Bm A B) (k : RowsKeep n₀ Bm B C) : RowsKeep n₀ Bm A C :=
  ⟨h.1.trans k.1, fun hb => (k.2 (Nat.lt_of_lt_of_le hb h.1.size)).trans (h.2 hb)⟩
theorem rowsKeep_b {n₀ Bm : Nat} {w : World} (hn : n₀ ≤ w.heap.size) (hb : Bm < w.heap.size) (W : World) (l : Nat) (o o' : Obj) (hl : w.heap.size ≤ l) (h : W.heap[l]? = some o) (h1 : o.isCells = false) (h2 : o.isWalk = false) : RowsKeep n₀ Bm W (W.putObj l o') :=
  ⟨belowK_b hn W l o o' hl h h1 h2, fun _ => (belowK_b (n₀ := Bm + 1) (by omega) W l o o' hl h h1 h2).block Bm (by omega)⟩

/-- 'A block holds this', between two rounds. -/
theorem ownFrom_block {β : Type} (B b : Nat) (o : Obj) (ho : o.isCells = true) : OwnFrom B (fun (_ : β) W => W.heap[b]? = some o) := fun _ W W' row hs hg hr =>
  (hg.block b (lt_of_block hs) fun e => by
    obtain ⟨o', h, hc⟩ := (hr b e.symm).2
    rw [hs] at h
    cases h
    rw [ho] at hc
    cases hc).trans hs

/-- 'out = append(out, x)' in a round, out in a box. -/
theorem wpListIn_push {F : Fence} {m : Nat} {P : Program} {t e : TypeId} {z : Value} {size bytes : Nat} (T : ElemT P t e z size bytes) (W : World) {ops : Array Oper} {rest : List Oper} {o : Oper} {a : Act} {Q : Exit → Act → World → Prop}
    (hgd : o.guard = none) (s x : Operand) (ho : o.op = .call { callee := .builtin .append, args := #[s, x], argTypes := #[t, t] })
    (n₀ B : Nat) (v : Value) (n : Nat) (xs : List Value) (hs : a.eval s = v) (hbx : Boxed W B t v) (hte : t ≠ e) (hown : W.ownsRow n₀ e size v n xs)
    (us : List Value) (hx : a.eval x = .slice (some ⟨W.heap.size, 0, none⟩) 1 1) (hus : us.length = size) (h1 : ∀ u ∈ us, u.oneCell' = true)
    (hb : (n + 1) * bytes ≤ 140737488355328) (h63 : n + 1 ≤ maxLen) (hbase : n₀ ≤ W.heap.size) (hB : n₀ ≤ B)
    (h : ∀ g c w1, Boxed w1 B t v → Boxed (w1.setCell ⟨B, 0, none⟩ (.slice (some ⟨g, 0, none⟩) (n + 1) c)) B t (.slice (some ⟨g, 0, none⟩) (n + 1) c) →
      (w1.setCell ⟨B, 0, none⟩ (.slice (some ⟨g, 0, none⟩) (n + 1) c)).ownsRow n₀ e size (.slice (some ⟨g, 0, none⟩) (n + 1) c) (n + 1) (xs ++ us) →
      KeepsOthers W (w1.setCell ⟨B, 0, none⟩ (.slice (some ⟨g, 0, none⟩) (n + 1) c)) → Below n₀ W (w1.setCell ⟨B, 0, none⟩ (.slice (some ⟨g, 0, none⟩) (n + 1) c)) →
      (∀ b cs t' sg, b ≠ B → t' ≠ e → W.heap[b]? = some (.cells cs t' sg) → (w1.setCell ⟨B, 0, none⟩ (.slice (some ⟨g, 0, none⟩) (n + 1) c)).heap[b]? = some (.cells cs t' sg)) →
      wpListIn F m P ops Q rest (a.put o.dst (.slice (some ⟨g, 0, none⟩) (n + 1) c)) w1) : wpListIn F m P ops Q (o :: rest) a (W.alloc (.cells us.toArray e)) := by
  obtain ⟨i, hi, hz0, hz1, hz2⟩ := T.info
  refine wpListIn_append_own (W.alloc (.cells us.toArray e)) hgd s x t ho n₀ e i z size bytes T.und hi hz0 hz1 hz2 T.zs T.pos v n xs hs (hown.alloc _) ⟨W.heap.size, 0, none⟩ 1 1 us hx (by simpa using hus) ?_ h1 h63 hb
    (by simp; omega) ?_
  · intro j u hu
    rw [Addr.add_lit, Nat.zero_add, cell_of_row _ W.heap.size j us.toArray e (0, 0) (heap_alloc_new W _)]
    simpa using hu
  · intro v' w1 hown' hg _
    obtain ⟨g, c, rfl⟩ := ownsRow_succ hown'
    obtain ⟨k1, k2, k3, k4, k5⟩ := hbx.appended hte hown hbase hB hown' hg
    refine h g c w1 k1 k2 k3 k4 k5 fun b cs t' sg hbB hte' hbk => ?_
    have h0 : (W.alloc (.cells us.toArray e)).heap[b]? = some (.cells cs t' sg) := (Below.heap_alloc W _ b (lt_of_block hbk)).trans hbk
    have h1 : w1.heap[b]? = some (.cells cs t' sg) := (hg.block b (lt_of_block h0) (block_notrow h0 hte' (hown.alloc _))).trans h0
    exact (Below.heap_setCell w1 _ _ b (fun e => hbB e)).trans h1

/-- A row of one's own behind a turn of a block that is no cells. -/
theorem own_turn {W W' : World} {B base : Nat} {e : TypeId} {size n : Nat} {v : Value} {xs : List Value} {row : Option Nat} (h : W.ownsRow base e size v n xs) (hg : W.grownBy W' row) (hr : ∀ r, row = some r → B ≤ r ∧ ∃ o : Obj, W.heap[r]? = some o ∧ o.isCells = false) : W'.ownsRow base e size v n xs := by
  refine h.kept hg ?_
  rcases h.2 with ⟨rfl, _⟩ | ⟨g, cap, cur, rfl, _, hgb, _⟩
  · exact .inl rfl
  · refine .inr fun e' => ?_
    obtain ⟨o, ho, hc⟩ := (hr g (by simpa [Value.ownBlock] using e'.symm)).2
    rw [hgb] at ho; cases ho; cases hc
theorem block_turn {W W' : World} {B b : Nat} {o : Obj} (ho : o.isCells = true) {row : Option Nat} (h : W.heap[b]? = some o) (hg : W.grownBy W' row) (hr : ∀ r, row = some r → B ≤ r ∧ ∃ o : Obj, W.heap[r]? = some o ∧ o.isCells = false) : W'.heap[b]? = some o :=
  (hg.block b (lt_of_block h) fun e => by
    obtain ⟨o', h', hc⟩ := (hr b e.symm).2
    rw [h] at h'
    cases h'
    rw [ho] at hc
    cases hc).trans h
/-- Where only one block may have changed, and it holds cells, the others are kept. -/
theorem others_keep {S : Nat → Prop} {W W' : World} (h : Keep S W W') (hS : ∀ k o, S k → W.heap[k]? = some o → o.isCells = true) : KeepsOthers W W' :=
  ⟨h.size, fun k o hk ho => (h.block k (lt_of_block hk) fun hs => by rw [hS k o hs hk] at ho; cases ho).trans hk⟩

/-- 'make([]T, n)', inside a fence. -/
theorem wpListIn_mk {F : Fence} {m : Nat} {P : Program} {t e : TypeId} {z : Value} {bytes : Nat} (T : ElemT P t e z 1 bytes) (w : World) {ops : Array Oper} {rest : List Oper} {o : Oper} {a : Act} {Q : Exit → Act → World → Prop}
    (hg : o.guard = none) (l c : Operand) (hop : o.op = Op.makeSlice t l c) (hzc : z.cells = #[z])
    (n : Nat) (hl : a.eval l = .int .i64 (n : Int)) (hc : a.eval c = .int .i64 (n : Int)) (b2 : bytes * n ≤ 281474976710656) (b3 : n ≤ maxLen)
    (hK : ∀ w', w'.ownsRow w.heap.size e 1 (.slice (some ⟨w.heap.size, 0, none⟩) n n) n (List.replicate n z) → Below w.heap.size w w' →
      wpListIn F m P ops Q rest (a.put o.dst (.slice (some ⟨w.heap.size, 0, none⟩) n n)) w') : wpListIn F m P ops Q (o :: rest) a w := by
  obtain ⟨i, hi, hz0, hz1, hz2⟩ := T.info
  refine wpListIn_plain hg fun K hK' => ?_
  obtain ⟨w', hrun, r1, r2⟩ := run_make_full (P := P) w w.heap.size t e i z 1 T.und hi hz0 hz1 .i64 .i64 n (by rw [hz2]; exact b2) b3 (Nat.le_refl _)
  rw [hzc, Nat.mul_one, toList_madeCells_one] at r1
  unfold Oper.wpIn
  refine ⟨by simp [Oper.about, hop], ?_⟩
  rw [Oper.semAt_plain F _ _ (by rw [hop]; intro c hc'; cases hc')]
  simp [execOp, hop, hl, hc, hrun, Result.andThen]
  exact hK' _ _ (hK w' r1 ⟨r2.os, r2.tape, r2.output, r2.size, fun k hk => r2.block k hk (by simp)⟩)
end Go.Proofs.YtfiojofcafjfeaaGreat
namespace Go.Proofs.YtfiojofcafjfeaaGreat
open Go.RowKit Go.Shelf
attribute [local go_sem] Oper.semAt_some

/-- Row k of a matrix with c columns. -/
def mrow (ms : List Int) (c k : Nat) : List Int := upTo c fun j => nth ms (k * c + j)
/-- The product with a column. -/
def mulL (ms : List Int) (r c : Nat) (xs : List Int) (q : Int) : List Int := upTo r fun k => dotL (mrow ms c k) xs q

theorem mrow_len (ms : List Int) (c k : Nat) : (mrow ms c k).length = c := upTo_len _ _
theorem mrow_room {r c k : Nat} (hk : k < r) : k * c + c ≤ r * c := by
  have := Nat.mul_le_mul_right c (show k + 1 ≤ r by omega)
  rwa [Nat.succ_mul] at this
theorem nth_drop (l : List Int) (m j : Nat) : nth (l.drop m) j = nth l (m + j) := by simp [nth, List.getD_eq_getElem?_getD, List.getElem?_drop]
theorem nth_take {l : List Int} {m j : Nat} (h : j < m) : nth (l.take m) j = nth l j := by simp [nth, List.getD_eq_getElem?_getD, List.getElem?_take, h]
theorem mrow_eq {ms : List Int} {r c k : Nat} (hk : k < r) (hl : ms.length = r * c) : (ms.drop (k * c)).take c = mrow ms c k := by
  have := mrow_room (c := c) hk
  refine eq_upTo (by rw [List.length_take, List.length_drop]; omega) fun j hj => ?_
  rw [nth_take hj, nth_drop]
theorem mrow_rd {W : World} {g o : Nat} {ms : List Int} {r c k : Nat} (h : Rd W (some ⟨g, o, none⟩) (nums .i64 ms)) (hk : k < r) (hl : ms.length = r * c) : Rd W (some ⟨g, o + k * c, none⟩) (nums .i64 (mrow ms c k)) := by
  have := (h.drop (k * c)).take c
  rwa [nums_drop, nums_take, mrow_eq hk hl] at this
theorem mrow_W64 {ms : List Int} {r c k : Nat} (h : W64 ms) (hk : k < r) (hl : ms.length = r * c) : W64 (mrow ms c k) := upTo_W64 fun j hj => h _ (by have := mrow_room (c := c) hk; omega)
theorem mdot_any (r c k : Nat) (g o : Nat) (ms : List Int) (B : Option Addr) (xs : List Int) (e : Nat) (q : Int) (W : World) (hk : k < r) (hc : 1 ≤ c ∧ c ≤ 1048576) (hms : ms.length = r * c)
    (hA : Rd W (some ⟨g, o, none⟩) (nums .i64 ms)) (wm : W64 ms) (hB : Rd W B (nums .i64 xs)) (hxl : xs.length = c) (wx : W64 xs) :
    Calls Tryz.prog 102 #[.slice (some ⟨g, o + k * c, none⟩) c c, .slice B c e, .int .i64 q] W fun e w' => e = .returned (.tuple #[.int .i64 (dotL (mrow ms c k) xs q), .bool true]) ∧ Below W.heap.size W w' := by
  have := dot_any (some ⟨g, o + k * c, none⟩) B (mrow ms c k) xs c e q W (mrow_rd hA hk hms) hB (by rw [mrow_len, hxl]) (by rw [mrow_len]; omega) (mrow_W64 wm hk hms) wx
  rwa [mrow_len, hxl] at this
theorem mulL_fin (ms : List Int) (r c : Nat) (xs : List Int) (q : Int) : ((List.finRange r).map fun k => dotL (mrow ms c k.1) xs q) = mulL ms r c xs q := by
  refine eq_upTo (by simp) fun k hk => ?_
  rw [nth_eq _ _ (by simpa using hk)]
  simp

set_option maxRecDepth 100000 in
set_option maxHeartbeats 2000000 in
theorem mmul_any (r c : Nat) (g o nn d : Nat) (ms : List Int) (B : Option Addr) (xs : List Int) (e : Nat) (q : Int) (w : World) (hr : 1 ≤ r ∧ r ≤ 1048576) (hc : 1 ≤ c ∧ c ≤ 1048576) (hnn : nn = r * c) (hd : nn ≤ d) (hm : nn ≤ 17592186043904)
    (hms : ms.length = nn) (hA : Rd w (some ⟨g, o, none⟩) (nums .i64 ms)) (wm : W64 ms) (hB : Rd w B (nums .i64 xs)) (hxl : xs.length = c) (wx : W64 xs) :
    Calls Tryz.prog 142 #[.agg #[.int .i64 r, .int .i64 c, .slice (some ⟨g, o, none⟩) nn d], .slice B c e, .int .i64 q] w fun e w' => ∃ A' c', e = .returned (.tuple #[.slice A' r c', .bool true]) ∧ w'.ownsRow w.heap.size 2 1 (.slice A' r c') r (nums .i64 (mulL ms r c xs q)) ∧ Below w.heap.size w w' := by
  have hrt := fun w' => right_any r c (some ⟨g, o, none⟩) nn d w' hr hc hnn hm
  have hrw := fun cs w' => rows_any cs w'
  have Hrt := Lib.hid hrt; have Hrw := Lib.hid hrw; have Hnn := Lib.hid hnn; have Hms := Lib.hid hms; have Hxl := Lib.hid hxl; have HA := Lib.hid hA; have HB := Lib.hid hB; have WM := Lib.hid wm; have WX := Lib.hid wx; clear hrt hrw hnn hms hxl hA hB wm wx
  refine (callsIn_wide (n := 3)).1 ?_
  refine callsIn_of_wp_marks Tryz.func142 rfl trivial ?_ rfl
  simp only [Tryz.ntmps142, List.size_toArray, List.length_cons, List.length_nil, Nat.reduceAdd, Nat.reduceSub, Array.replicate_succ, Array.replicate_zero, List.push_toArray, List.append_toArray, List.nil_append, List.cons_append]
  gi_wp2_with fail
  refine ⟨trivial, ?_⟩
  refine (callsIn_wide.2 (Hrt.out _)).mono ?_
  rintro e w1 ⟨rfl, rfl⟩
  gi_wp2_with fail
  refine ⟨trivial, ?_⟩
  refine (callsIn_wide.2 (Hrw.out _ _)).mono ?_
  rintro e w2 ⟨rfl, rfl⟩
  gi_wp2_with fail
  obtain ⟨W0, hW0⟩ : ∃ W0, W0 = ((((w.alloc (.cells #[.int .i64 r, .int .i64 c, .slice (some ⟨g, o, none⟩) nn d] 172)).alloc (.cells #[.slice B c e] 52)).alloc (.cells #[.int .i64 q] 3)).alloc (.cells #[.int .i64 r, .int .i64 c, .slice (some ⟨g, o, none⟩) nn d] 172)) := ⟨_, rfl⟩
  have hs0 : W0.heap.size = w.heap.size + 1 + 1 + 1 + 1 := by rw [hW0]; simp
  have b4 : Boxed W0 (w.heap.size + 1) 52 (.slice B c e) := by
    rw [hW0]
    have := ((Boxed.new (w.alloc (.cells #[.int .i64 r, .int .i64 c, .slice (some ⟨g, o, none⟩) nn d] 172)) 52 (.slice B c e)).alloc (.cells #[.int .i64 q] 3)).alloc (.cells #[.int .i64 r, .int .i64 c, .slice (some ⟨g, o, none⟩) nn d] 172)
    simpa using this
  have b5 : Boxed W0 (w.heap.size + 1 + 1) 3 (.int .i64 q) := by
    rw [hW0]
    have := (Boxed.new ((w.alloc (.cells #[.int .i64 r, .int .i64 c, .slice (some ⟨g, o, none⟩) nn d] 172)).alloc (.cells #[.slice B c e] 52)) 3 (.int .i64 q)).alloc (.cells #[.int .i64 r, .int .i64 c, .slice (some ⟨g, o, none⟩) nn d] 172)
    simpa using this
  have hbel0 : Below w.heap.size w W0 := by rw [hW0]; exact ((((Below.refl _ w).alloc (Nat.le_refl _) _).alloc (by simp) _).alloc (by simp; omega) _).alloc (by simp; omega) _
  rw [← hW0, ← hs0]
  have bO := (Boxed.new W0 52 (.slice none 0 0)).alloc (.cells #[.int .i64 r, .int .i64 c, .slice (some ⟨g, o, none⟩) nn d] 172)
  have bM : ((W0.alloc (.cells #[.slice none 0 0] 52)).alloc (.cells #[.int .i64 r, .int .i64 c, .slice (some ⟨g, o, none⟩) nn d] 172)).heap[W0.heap.size + 1]? = some (.cells #[.int .i64 r, .int .i64 c, .slice (some ⟨g, o, none⟩) nn d] 172 (0, 0)) := by
    have := heap_alloc_new (W0.alloc (.cells #[.slice none 0 0] 52)) (.cells #[.int .i64 r, .int .i64 c, .slice (some ⟨g, o, none⟩) nn d] 172)
    simpa using this
  have HS0 := Lib.hid hs0; have HBl0 := Lib.hid hbel0; have HbM := Lib.hid bM; clear hW0
  clear hs0 hbel0 bM
  refine' wpIn_rangeFunc_ownG (F := Fence.wide) (n := 3) rfl (by omega) (gf := 145) (lb := #[.pointer (some ⟨W0.heap.size + 1, 0, none⟩)]) rfl trivial (enters_of Tryz.func145 (by kernel_rfl) rfl)
    (rows_stops _ (W0.heap.size + 1) w.heap.size g o r c nn d hr.2 hc Hnn.out hd _ HbM.out) rowsKeep_t (rowsKeep_b (by have := HBl0.out.size; simp; omega) (by simp)) (Below.refl _ _) (fun _ => rfl)
    (fun (pre : List (Fin r)) W => ((∃ v, Boxed W W0.heap.size 52 v ∧ W.ownsRow w.heap.size 2 1 v pre.length (nums .i64 (pre.map fun k => dotL (mrow ms c k.1) xs q)) ∧ True) ∧ Boxed W (w.heap.size + 1) 52 (.slice B c e) ∧ Boxed W (w.heap.size + 1 + 1) 3 (.int .i64 q) ∧ W.heap[W0.heap.size + 1]? = some (.cells #[.int .i64 r, .int .i64 c, .slice (some ⟨g, o, none⟩) nn d] 172 (0, 0))) ∧ Below w.heap.size w W)
    (fun _ _ _ => False)
    (OwnFrom.and (OwnFrom.and (Own.from (holdsRow_own w.heap.size W0.heap.size 52 2 1 (fun pre : List (Fin r) => pre.length) (fun pre => nums .i64 (pre.map fun k => dotL (mrow ms c k.1) xs q)) (fun _ _ => True)) _) (OwnFrom.and (ownFrom_block _ _ _ rfl) (OwnFrom.and (ownFrom_block _ _ _ rfl) (ownFrom_block _ _ _ rfl)))) (ownFrom_below (Nat.le_refl _) (by have := HBl0.out.size; simp; omega)))
    (fun _ _ _ _ _ hs _ _ => hs)
    ⟨⟨⟨_, bO, World.ownsRow_nil _ _ _ _, trivial⟩, (b4.alloc _).alloc _, (b5.alloc _).alloc _, HbM.out⟩, (HBl0.out.alloc (by have := HBl0.out.size; omega) _).alloc (by have := HBl0.out.size; simp; omega) _⟩
    _ ?assign ?body ?done ?stop
  case assign =>
    intro l x W K hK
    unfold rowEnc
    gi_wp2
    exact hK
  case body =>
    rintro l pre x W ⟨⟨⟨v, hv, hrow, _⟩, hx4, hx5, hxM⟩, hBl⟩ hlt
    have hc4 := hx4.cell
    have hc5 := hx5.cell
    have Hv := Lib.hid hv; have Hrow := Lib.hid hrow; have HM := Lib.hid hxM; have HBl := Lib.hid hBl; have H4 := Lib.hid hx4; have H5 := Lib.hid hx5; have Hlt := Lib.hid hlt; clear hv hrow hxM hBl hx4 hx5 hlt
    gi_wp2_with fail
    refine ⟨trivial, ?_⟩
    refine (CallsIn.inRound l (callsIn_wide.2 (mdot_any r c x.1 g o ms B xs _ q W x.2 hc (Hms.out.trans Hnn.out) (HA.out.below HBl.out) WM.out (HB.out.below HBl.out) Hxl.out WX.out))).mono ?_
    rintro e w3 ⟨rfl, hb3⟩
    have hv3 : Boxed w3 W0.heap.size 52 v := (hb3.block _ (Boxed.lt Hv.out)).trans Hv.out
    have hc3 := hv3.cell
    have hrow3 := own_below Hrow.out hb3
    have hs3 : w.heap.size ≤ w3.heap.size := Nat.le_trans HBl.out.size hb3.size
    have hsO : w.heap.size ≤ W0.heap.size := HBl0.out.size
    have hpl : pre.length < r := Hlt.out
    have hxM3 := (hb3.block _ (lt_of_block HM.out)).trans HM.out
    have hx43 := (hb3.block _ (lt_of_block H4.out)).trans H4.out
    have hx53 := (hb3.block _ (lt_of_block H5.out)).trans H5.out
    have HxM3 := Lib.hid hxM3; have Hx43 := Lib.hid hx43; have Hx53 := Lib.hid hx53
    have Hv3 := Lib.hid hv3; have Hb3 := Lib.hid hb3; have Hrow3 := Lib.hid hrow3; have Hs3 := Lib.hid hs3; have HsO := Lib.hid hsO; have Hpl := Lib.hid hpl; clear hv3 hb3 hrow3 hs3 hsO hpl hxM3 hx43 hx53 hc4 hc5
    obtain ⟨dv, hdv⟩ : ∃ dv, dv = dotL (mrow ms c x.1) xs q := ⟨_, rfl⟩
    have Hdv := Lib.hid hdv
    rw [← hdv]
    clear hdv
    gi_wp2_with (gi_at_builtin; refine wpListIn_push et_vec w3 rfl (.tmp 34) (.tmp 36) rfl w.heap.size W0.heap.size v pre.length _ rfl Hv3.out (by decide) Hrow3.out [.int .i64 dv] rfl rfl (nums_cell .i64 [dv]) (by have := Hpl.out; have := hr.2; omega) (by have := Hpl.out; have := hr.2; unfold maxLen; omega) Hs3.out HsO.out ?_)
    intro g1 c1 w1 k1 k2 k3 k4 k5 k6
    have hc1 := k1.cell; have hf1 := k1.frozen
    have K2 := Lib.hid k2; have K3 := Lib.hid k3; have K4 := Lib.hid k4; have K5 := Lib.hid k5; have K6 := Lib.hid k6; clear k1 k2 k3 k4 k5 k6 hc3
    gi_wp2_with fail
    have hbW : Below w.heap.size W (w1.setCell ⟨W0.heap.size, 0, none⟩ (.slice (some ⟨g1, 0, none⟩) (pre.length + 1) c1)) := (Hb3.out.mono HBl.out.size).trans K5.out
    have hne1 : W0.heap.size + 1 ≠ W0.heap.size := by omega
    have hne2 : w.heap.size + 1 ≠ W0.heap.size := by have := HS0.out; omega
    have hne3 : w.heap.size + 1 + 1 ≠ W0.heap.size := by have := HS0.out; omega
    have hM1 := K6.out _ _ _ _ _ hne1 (by decide) HxM3.out
    refine ⟨((KeepsOthers.of_grownBy (row := none) (grown_none Hb3.out) (fun _ _ h => by cases h)).trans K4.out).from _, ⟨hbW, fun _ => hM1.trans HM.out.symm⟩, ⟨⟨_, K2.out, ?_, trivial⟩, K6.out _ _ _ _ _ hne2 (by decide) Hx43.out, K6.out _ _ _ _ _ hne3 (by decide) Hx53.out, hM1⟩, HBl.out.trans hbW⟩
    have h := K3.out
    rw [Hdv.out] at h
    simpa [nums] using h
  case done =>
    rintro D ys W hD rfl ⟨⟨⟨v, hv, hrow, _⟩, hx4, hx5, hxM⟩, hBl⟩ hK
    have hc := hv.cell
    gi_wp2
    refine ⟨by simp, .inl ⟨_, _, rfl, run_takeDeferred hK, ?_⟩⟩
    obtain ⟨A', c', rfl, _⟩ := own_form hrow
    rw [List.length_finRange, mulL_fin] at *
    refine ⟨.tuple #[.slice A' r c', .bool true], by simp [results, Tryz.results142, go_sem], A', c', rfl, ownsRow_putObj hrow _ hK rfl, hBl.trans (belowK_b (w := w) (Nat.le_refl _) W D _ _ (by have := HBl0.out.size; simp at hD; omega) hK rfl rfl)⟩
  case stop =>
    rintro D c pre W _ _ h _
    exact h.elim
end Go.Proofs.YtfiojofcafjfeaaGreat
