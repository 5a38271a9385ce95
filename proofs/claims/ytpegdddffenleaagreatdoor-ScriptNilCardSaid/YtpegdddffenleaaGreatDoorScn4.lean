/- The script's names, and its example. -/
import Derived.Test.YtpegdddffenleaaGreatDoorScn3
import Derived.Shelf.SlIter.Nil
import Derived.Shelf.SortM.Plain
import Derived.Shelf.SortM.SortNone
set_option linter.unusedSimpArgs false
set_option linter.unusedVariables false
namespace Go.Proofs.YtpegdddffenleaaGreatDoor
open Go.RowKit Go.Maps Go.Sort Go.Shelf

set_option maxRecDepth 100000 in
set_option maxHeartbeats 4000000 in
theorem do_count (b : Nat) (w : World) (hm : MaxIs w) (hb : w.heap[b]? = some (.cells #[.slice none 0 0, .int .i64 0, .int .i64 0, .int .i64 0, .int .i64 0, .int .i64 0, .int .i64 0, .int .i64 0, .int .i64 0, .int .i64 0, .int .i64 0, .int .i64 0, .slice none 0 0, .slice none 0 0, .slice none 0 0, .int .i64 0, .slice none 0 0, .slice none 0 0, .slice none 0 0, .slice none 0 0, .bool false] 61 (0, 0))) :
    Calls Tryz.prog 11 #[.pointer (some ⟨b, 0, none⟩), .string ⟨#[99, 111, 117, 110, 116]⟩] w fun e w' => e = .returned (sV [48, 32, 48, 32, 48]) ∧ Below w.heap.size w w' := by
  have hsp := split_any ⟨#[99, 111, 117, 110, 116]⟩ w (by decide) hm
  have Hsp := Lib.hid hsp; have HB := Lib.hid hb
  clear hsp hm hb
  go_enter Tryz.func11, Tryz.ntmps11
  go_wp2_with fail
  refine Hsp.out.mono ?_
  rintro e w1 ⟨r, rfl, hw1, hr⟩
  obtain rfl : r = [] := hr (by decide +kernel)
  rw [show word1 ⟨#[99, 111, 117, 110, 116]⟩ = ⟨#[99, 111, 117, 110, 116]⟩ from by decide +kernel] at hw1
  have k1 : Below w.heap.size w w1 := by rw [hw1]; exact (br w).alloc (Nat.le_refl _) _
  have c1 : ∀ w', Below w1.heap.size w1 w' → w'.cell? ⟨w.heap.size, 0, none⟩ = some (.string ⟨#[99, 111, 117, 110, 116]⟩) := fun w' q => by
    have g : w1.heap[w.heap.size]? = some (.cells (([⟨#[99, 111, 117, 110, 116]⟩] : List ByteArray).map Value.string).toArray 9 (0, 0)) := by rw [hw1]; exact heap_alloc_new w _
    exact (cell_of_row w' w.heap.size 0 _ _ _ (sb g w' q)).trans (by simp)
  have K1 := Lib.hid k1
  clear k1 hw1 hr
  go_upto_region 4 with (fail)
  refine HA.g (fun w' : World => Below w1.heap.size w1 w') ?_
  have q0 := (br w1).drew
  refine HA.t ?_ [1, 2, 3] q0 ?_
  refine HA.c 0 (cmds_any _) ?_
  rintro e w2 ⟨rfl, hc, k2⟩
  have q2 := bt q0 k2
  obtain ⟨v, ps, hl, hv⟩ := hc.look ⟨#[99, 111, 117, 110, 116]⟩ (by decide +kernel)
  rw [show hasName (⟨#[99, 111, 117, 110, 116]⟩ : ByteArray).data.toList = true from by decide +kernel, World.size_drew] at hl
  rw [dOf_cmd, show (DataW.map (cmdL.map fun p => ((.string p.1 : Lit), (.lit (.int .i64 p.2) : DataW Unit)))).atKey (.string (⟨#[99, 111, 117, 110, 116]⟩ : ByteArray).data.toList) (.lit (.int .i64 (-1))) = .lit (.int .i64 ((51 : Nat) : Int)) from by kernel_rfl] at hv
  obtain rfl := rdF_func hv
  refine ⟨_, rfl, q2, fun _ => ?_⟩
  refine HA.v 4 w2 (.tuple #[.func (.func 51) #[] #[], .bool true]) q2 ?_
  refine HA.t ?_ [5, 6, 7, 8, 9] q2 ?_
  refine HA.d ?_
  have Q2 := Lib.hid (K1.out.trans (q2.mono K1.out.size))
  have HB2 := Lib.hid (sb HB.out w2 Q2.out)
  clear q2 hl hc hv k2 q0 c1
  go_wp2_with fail
  refine (count_any0 b _ _ w2 HB2.out).mono ?_
  rintro e w3 ⟨rfl, q⟩
  have Q := Lib.hid (Q2.out.trans (q.mono Q2.out.size))
  clear q
  go_wp2_with fail
  go_ret
  exact ⟨rfl, Q.out⟩
theorem alive26 (w : World) (hm : MaxIs w) : Calls Tryz.prog 8 #[] w fun e w' => e = .returned (.bool true) ∧ Below w.heap.size w w' := by
  go_enter Tryz.func8, Tryz.ntmps8
  go_wp2_with fail
  refine (new_any w).mono ?_
  rintro e w1 ⟨rfl, hw1⟩
  have k1 : Below w.heap.size w w1 := by rw [hw1]; exact (br w).alloc (Nat.le_refl _) _
  have hd := do_count w.heap.size w1 (hm.below k1) (by rw [hw1]; exact heap_alloc_new w _)
  have K1 := Lib.hid k1; have HD := Lib.hid hd
  clear k1 hw1 hd
  go_wp2_with fail
  refine HD.out.mono ?_
  rintro e w2 ⟨rfl, q⟩
  have Q := Lib.hid (K1.out.trans (q.mono K1.out.size))
  clear q
  unfold sV
  go_wp2_with fail
  go_ret
  exact ⟨by simp, Q.out⟩
end Go.Proofs.YtpegdddffenleaaGreatDoor
