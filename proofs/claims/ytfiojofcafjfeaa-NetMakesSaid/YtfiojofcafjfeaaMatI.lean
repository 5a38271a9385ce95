/- The iterator over the rows of a matrix. -/
import Derived.Test.YtfiojofcafjfeaaMat
import Derived.RangeFuncNested
import Derived.RangeFuncBound
import Derived.RangeFuncCalls
import Derived.RangeFuncLeaves
import Derived.RangeFuncBox
import Derived.Shelf.Abstract
import Derived.WalkKit
import Derived.OwnWalkIn
import Derived.TacticsInMore
import Derived.LoopNIn
import Derived.LoopIn
set_option linter.unusedSimpArgs false
set_option linter.unusedVariables false
namespace Go.Proofs.Ytfiojofcafjfeaa
open Go.RowKit Go.Shelf
attribute [local go_sem] Oper.semAt_some

/-- Row k as the loop's two variables. -/
def rowEnc (g o c : Nat) {r : Nat} (k : Fin r) : Array Value := #[.int .i64 (k.1 : Int), .slice (some ⟨g, o + k.1 * c, none⟩) c c]
/-- What a round that goes on keeps: what lay below n₀, and the block Bm. -/
def RowsKeep (n₀ Bm : Nat) (W W' : World) : Prop := Below n₀ W W' ∧ (Bm < W.heap.size → W'.heap[Bm]? = W.heap[Bm]?)
theorem finTake {r k : Nat} (h : k < r) : (List.finRange r).take (k + 1) = (List.finRange r).take k ++ [⟨k, h⟩] := by
  rw [List.take_add_one]
  simp [h]
theorem grown_none {w w' : World} (h : Below w.heap.size w w') : w.grownBy w' none := ⟨h.os, h.tape, h.output, h.size, fun k hk _ => h.block k hk⟩

set_option maxRecDepth 100000 in
set_option maxHeartbeats 2000000 in
theorem rows1_in (n l Bm n₀ g o r c nn d : Nat) (hr : r ≤ 1048576) (hc : 1 ≤ c ∧ c ≤ 1048576) (hnn : nn = r * c) (hd : nn ≤ d) (J Jx : List (Fin r) → World → Prop) (B : Nat) (hJ : AbidesFrom B J)
    (hY : ∀ pre x W, J pre W → pre.length < r → YieldAt Fence.wide (n - 1) Try.prog l (rowEnc g o c x) W fun e W' =>
      (e = .returned (.bool true) ∧ J (pre ++ [x]) W' ∧ RowsKeep n₀ Bm W W') ∨ (e = .returned (.bool false) ∧ Jx (pre ++ [x]) W'))
    (W : World) (hBm : W.heap[Bm]? = some (.cells #[.int .i64 r, .int .i64 c, .slice (some ⟨g, o, none⟩) nn d] 66 (0, 0))) (h0 : J [] W) :
    CallsIn Fence.wide n Try.prog 68 #[.func (.yield l) #[] #[], .pointer (some ⟨Bm, 0, none⟩)] W fun e W' => (∃ v, e = .returned v) ∧
      ((∃ ys, ys = List.finRange r ∧ J ys W') ∨ (∃ pre, True ∧ Jx pre W')) := by
  have e0 := cell_of_row W _ 0 _ _ _ hBm
  have e1 := cell_of_row W _ 1 _ _ _ hBm
  have e2 := cell_of_row W _ 2 _ _ _ hBm
  have ef := fun j => frozen_of_row W _ j _ _ hBm
  have HBm := Lib.hid hBm; have Hnn := Lib.hid hnn; clear hBm hnn
  refine callsIn_of_wp Try.func68 rfl trivial ?_ rfl
  simp only [Try.ntmps68, List.size_toArray, List.length_cons, List.length_nil, Nat.reduceAdd, Nat.reduceSub, Array.replicate_succ, Array.replicate_zero, List.push_toArray, List.append_toArray, List.nil_append, List.cons_append]
  gi_wp2
  gi_loopw [6] (fun i wr => ∃ k : Nat, k ≤ r ∧ i = .int .i64 k ∧ J ((List.finRange r).take k) wr ∧ wr.heap[Bm]? = some (.cells #[.int .i64 r, .int .i64 c, .slice (some ⟨g, o, none⟩) nn d] 66 (0, 0)))
    (fun i _ => r - (intOf i).toNat)
  case atStart => exact ⟨0, Nat.zero_le _, rfl, h0, HBm.out⟩
  case round =>
    obtain ⟨k, hk, rfl, hJs, hBk⟩ := hrel
    clear e0 e1 e2 ef
    by_cases hlt : k < r
    · have hlen : ((List.finRange r).take k).length < r := by simp; omega
      have e0 := cell_of_row wr _ 0 _ _ _ hBk
      have e1 := cell_of_row wr _ 1 _ _ _ hBk
      have e2 := cell_of_row wr _ 2 _ _ _ hBk
      have ef := fun j => frozen_of_row wr _ j _ _ hBk
      have hrw := row_any r c k g o nn d wr hr hc hlt Hnn.out hd
      have HJs := Lib.hid hJs; have HBk := Lib.hid hBk; have Hrw := Lib.hid hrw; clear hJs hBk hrw
      gi_wp2_with fail
      refine ⟨trivial, (fun h => by cases h), ?_⟩
      refine (callsIn_wide.2 Hrw.out).mono ?_
      rintro e w3 ⟨rfl, hb3⟩
      have hJ3 := hJ _ _ _ none HJs.out (grown_none hb3) (fun _ h => by cases h)
      have hBk3 := (hb3.block _ (lt_of_block HBk.out)).trans HBk.out
      obtain ⟨fn, tmps, assign, body, hy, hR⟩ := hY _ ⟨k, hlt⟩ w3 hJ3 hlen
      unfold rowEnc at hy
      dsimp only at hy
      have HBk3 := Lib.hid hBk3; clear hJ3 hBk3 hb3
      gi_wp2
      refine ⟨(fun h => by cases h), ?_⟩
      refine hR.mono ?_
      rintro e w5 (⟨rfl, hJ5, hk5⟩ | ⟨rfl, hJx5⟩)
      · have hB5 := (hk5.2 (lt_of_block HBk3.out)).trans HBk3.out
        have HB5 := Lib.hid hB5; have HJ5 := Lib.hid hJ5; clear hB5 hJ5 hk5
        gi_wp2
        go_roundw
        case rel => exact ⟨k + 1, by omega, by go_num, by rw [finTake hlt]; exact HJ5.out, HB5.out⟩
        case measure => simp [intOf]; omega
      · gi_wp2
        refine bodyPost_ret (results_none rfl _ _ _) rfl ?_
        exact ⟨⟨_, rfl⟩, .inr ⟨_, trivial, hJx5⟩⟩
    · obtain rfl : k = r := by omega
      have hall : (List.finRange k).take k = List.finRange k := List.take_of_length_le (by simp)
      rw [hall] at hJs
      have HJs := Lib.hid hJs; clear hJs hall
      gi_wp2
      go_end0
      exact ⟨⟨_, rfl⟩, .inl ⟨_, rfl, HJs.out⟩⟩

/-- **The rows of a matrix, as a value that is ranged over.** -/
theorem rows_stops (n Bm n₀ g o r c nn d : Nat) (hr : r ≤ 1048576) (hc : 1 ≤ c ∧ c ≤ 1048576) (hnn : nn = r * c) (hd : nn ≤ d) (w : World)
    (hBm : w.heap[Bm]? = some (.cells #[.int .i64 r, .int .i64 c, .slice (some ⟨g, o, none⟩) nn d] 66 (0, 0))) :
    SeqStopsK Fence.wide n Try.prog 68 #[.pointer (some ⟨Bm, 0, none⟩)] (rowEnc (r := r) g o c) (RowsKeep n₀ Bm) (fun ys => ys = List.finRange r) (fun _ => True) r w := fun l J Jx W hW hJ _ hY h0 =>
  rows1_in n l Bm n₀ g o r c nn d hr hc hnn hd J Jx _ hJ hY W ((hW.block _ (lt_of_block hBm)).trans hBm) h0
end Go.Proofs.Ytfiojofcafjfeaa
