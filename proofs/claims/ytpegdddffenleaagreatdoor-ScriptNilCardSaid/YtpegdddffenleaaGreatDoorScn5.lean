/- The script's names. -/
import Derived.Test.YtpegdddffenleaaGreatDoorScn4
import Derived.Shelf.SlIter.Nil
import Derived.Shelf.SortM.Plain
import Derived.Shelf.SortM.SortNone
set_option linter.unusedSimpArgs false
set_option linter.unusedVariables false
namespace Go.Proofs.YtpegdddffenleaaGreatDoor
open Go.RowKit Go.Maps Go.Sort Go.Shelf

theorem sortsS (m : Nat) : AnyZ.SortsIn Tryz.prog Tryz.laysSlZ6_ren Fence.wide m :=
  ⟨fun blk off cap ss W hH hblk hsz => callsIn_wide.2 (AnyM.slices_Sort_string Tryz.laysSlM6 blk off cap ss W hH hblk hsz),
   fun p cap W => callsIn_wide.2 (AnyM.slices_Sort_string_none Tryz.laysSlM6 p cap W)⟩
theorem keys_any (mb : Option Nat) (W : World) : Calls Tryz.prog 34 #[.map mb] W fun e w' => e = .returned (.func (.func 62) #[] #[.pointer (some ⟨W.heap.size, 0, none⟩)]) ∧ w' = W.alloc (.cells #[.map mb] 77) :=
  (callsIn_wide (n := 5)).1 (AnyZ.keys_in Tryz.laysSlZ7 Fence.wide 5 trivial rfl mb W)
set_option maxHeartbeats 1000000 in
theorem sortedK_any {H : Type} (b nn : Nat) (D0 : DataW H) (R : Value → Option (DataW H × List MemPlace)) (w : World) (hown : w.ownsMap Tryz.prog 9 R b nn D0) (hmax : Maps.size D0 ≤ maxLen) (hbytes : Maps.size D0 * 16 ≤ 140737488355328) :
    Calls Tryz.prog 33 #[.func (.func 62) #[] #[.pointer (some ⟨w.heap.size, 0, none⟩)]] (w.alloc (.cells #[.map (some b)] 77)) fun e w' => ∃ (v : Value) (ss : List (List UInt8)), e = .returned v ∧ ss.Perm (strKeys D0) ∧
      w'.ownsRow (w.alloc (.cells #[.map (some b)] 77)).heap.size 9 1 v ss.length ((ss.mergeSort (fun x y => decide (x ≤ y))).map encStr) ∧ (v = .slice none 0 0 ↔ ss = []) ∧ Below (w.alloc (.cells #[.map (some b)] 77)).heap.size (w.alloc (.cells #[.map (some b)] 77)) w' := by
  have hbl := hown.lt
  have hseq : SeqGives Fence.wide 2 Tryz.prog 62 #[.pointer (some ⟨w.heap.size, 0, none⟩)] encStr (fun ss => ss.Perm (strKeys D0)) (Maps.size D0) (w.alloc (.cells #[.map (some b)] 77)) :=
    AnyZ.keys_gives (ρ := Tryz.laysSlZ7_ren) { Tryz.laysSlZ7 with } Fence.wide _ trivial rfl (by omega) w.heap.size b nn D0 _ (by simp) (by simp) (by
      obtain ⟨es, clock, hb, Ft, hs, hD⟩ := hown
      exact ⟨es, clock, (Below.heap_alloc _ _ b hbl).trans hb, Ft, hs, hD⟩)
  exact (callsIn_wide (n := 5)).1 (AnyZ.sorted_in Tryz.laysSlZ6 Fence.wide 5 trivial trivial trivial trivial rfl (by omega) (sortsS _) (enters_of Tryz.func61 (by kernel_rfl) rfl) 62 #[.pointer (some ⟨w.heap.size, 0, none⟩)] trivial (enters_of Tryz.func62 (by kernel_rfl) rfl) _ _ hmax hbytes _ hseq)
def nameL : List (List UInt8) := cmdL.map (·.1)
theorem keys_cmd : strKeys (dOf cmdL) = nameL := by rw [dOf_cmd]; kernel_rfl
theorem size_cmd : Maps.size (dOf cmdL) = 13 := by rw [dOf_cmd]; kernel_rfl
theorem le_tr (a b c : List UInt8) (h : decide (a ≤ b) = true) (h2 : decide (b ≤ c) = true) : decide (a ≤ c) = true := by
  simp only [decide_eq_true_eq] at *
  exact List.le_trans h h2
theorem le_tot (a b : List UInt8) : (decide (a ≤ b) || decide (b ≤ a)) = true := by
  have := List.le_total a b
  simpa using this
theorem sorted_names {ss : List (List UInt8)} (h : ss.Perm nameL) : ss.mergeSort (fun x y => decide (x ≤ y)) = nameL := by
  refine List.Perm.eq_of_pairwise (le := fun x y => decide (x ≤ y) = true) (fun a b _ _ h1 h2 => ?_) ?_ ?_ ((List.mergeSort_perm _ _).trans h)
  · simp only [decide_eq_true_eq] at h1 h2
    exact List.le_antisymm h1 h2
  · exact List.pairwise_mergeSort le_tr le_tot ss
  · decide +kernel
set_option maxRecDepth 100000 in
set_option maxHeartbeats 4000000 in
theorem names_any (w : World) : Calls Tryz.prog 14 #[] w fun e w' => ∃ v, e = .returned v ∧ w'.ownsRow w.heap.size 9 1 v 13 (nameL.map sV) ∧ Below w.heap.size w w' := by
  go_enter Tryz.func14, Tryz.ntmps14
  go_wp2_with fail
  refine (cmds_any w).mono ?_
  rintro e w1 ⟨rfl, hc, k1⟩
  have hs := sortedK_any w.heap.size _ _ rdF w1 hc (by rw [size_cmd]; decide) (by rw [size_cmd]; decide)
  have HS := Lib.hid hs; have K1 := Lib.hid k1
  clear hs k1 hc
  go_wp2_with fail
  refine (keys_any _ w1).mono ?_
  rintro e w2 ⟨rfl, rfl⟩
  go_wp2_with fail
  refine HS.out.mono ?_
  rintro e w3 ⟨v, ss, rfl, hp, ho, -, k3⟩
  rw [keys_cmd] at hp
  have hl : ss.length = 13 := hp.length_eq
  rw [sorted_names hp, hl] at ho
  have HO := Lib.hid ho
  have K3 := Lib.hid (K1.out.trans ((((br w1).alloc (Nat.le_refl _) _).trans (k3.mono (by rw [World.size_alloc]; omega))).mono K1.out.size))
  clear ho k3 hp hl
  go_wp2_with fail
  go_ret
  refine ⟨v, rfl, ?_, K3.out⟩
  have h := HO.out
  exact ownsRow_base_a h (by rw [World.size_alloc]; have := K1.out.size; omega)
end Go.Proofs.YtpegdddffenleaaGreatDoor
