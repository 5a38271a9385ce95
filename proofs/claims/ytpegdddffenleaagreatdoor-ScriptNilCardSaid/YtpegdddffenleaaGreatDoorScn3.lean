/- The script's lines. -/
import Derived.Test.YtpegdddffenleaaGreatDoorScn2
import Derived.Shelf.Strings.Split
import Derived.Shelf.Strings.SplitShaped
import Derived.Shelf.Strings.Cut
import Derived.Shelf.Strings.Shaped
set_option linter.unusedSimpArgs false
set_option linter.unusedVariables false
namespace Go.Proofs.YtpegdddffenleaaGreatDoor
open Go.RowKit Go.Maps

/-- Is it the name of a command? -/
def hasName (s : List UInt8) : Bool := cmdL.any fun p => p.1 == s
theorem dOf_cmd : dOf cmdL = .map (cmdL.map fun p => (.string p.1, .lit (.int .i64 p.2))) := by kernel_rfl
theorem has_cmd (s : List UInt8) : has (dOf cmdL) (.string s) = hasName s := by
  rw [dOf_cmd, has_eq, List.any_map]
  rfl
theorem CmdAt.look {b : Nat} {w : World} (h : CmdAt cmdL b w) (s : ByteArray) (hs : s.size ≤ maxLen) :
    ∃ v ps, (Instr.lookup 77 (.map (some b)) (.string s) true).run Tryz.prog w = .ok (.tuple #[v, .bool (hasName s.data.toList)]) w ∧ rdF v = some ((dOf cmdL).atKey (.string s.data.toList) (.lit (.int .i64 (-1))), ps) := by
  obtain ⟨v, ps, h1, h2⟩ := World.ownsMap.look_ok h str_key Tryz.underlying77 (Tryz.zeroValue75 w) (zd := .lit (.int .i64 (-1))) (zp := []) rdF_nil (WideMaps.keyOf_string_mk Tryz.underlying9 hs)
  rw [has_cmd] at h1
  exact ⟨v, ps, h1, h2⟩
/-- The first word of a line. -/
def word1 (s : ByteArray) : ByteArray := ⟨(Lib.cut s.data.toList [32]).1.toArray⟩
theorem split_head (s : ByteArray) : ∃ r, Lib.splitB ⟨#[32]⟩ 0 (Lib.countB s ⟨#[32]⟩) s = word1 s :: r := by
  rcases Lib.indexB_cases s ⟨#[32]⟩ with h | ⟨i, h, hi⟩
  · refine ⟨[], ?_⟩
    rw [Lib.splitB_miss _ _ _ _ h]
    have h' : Lib.index s.data.toList [32] = -1 := h
    unfold word1 Lib.cut
    rw [h', if_neg (by decide)]
  · rw [Lib.countB_hit s _ i (by decide) h, Nat.add_comm, Lib.splitB_hit _ _ _ _ i h]
    refine ⟨Lib.splitB ⟨#[32]⟩ 0 (Lib.countB (s.extract (i + (⟨#[32]⟩ : ByteArray).size) s.size) ⟨#[32]⟩) (s.extract (i + (⟨#[32]⟩ : ByteArray).size) s.size), ?_⟩
    congr 1
    have h' : Lib.index s.data.toList [32] = i := h
    unfold word1 Lib.cut
    rw [h', if_pos (by omega), Int.toNat_natCast]
    show s.extract 0 (i + 0) = _
    rw [Nat.add_zero]
    apply ByteArray.ext
    rw [ByteArray.data_extract]
    apply Array.ext'
    simp
theorem word1_size (s : ByteArray) : (word1 s).size ≤ s.size := by
  show (Lib.cut s.data.toList [32]).1.toArray.size ≤ _
  unfold Lib.cut
  split
  · simp only [List.size_toArray, List.length_take]
    exact Nat.le_trans (Nat.min_le_right _ _) (by show s.data.toList.length ≤ s.data.size; simp)
  · simp only [List.size_toArray]; show s.data.toList.length ≤ s.data.size; simp
theorem do_nil (s : ByteArray) (w : World) : Calls Tryz.prog 11 #[.pointer none, .string s] w fun e w' => e = .returned (sV [101, 114, 114, 111, 114, 32, 49]) ∧ Below w.heap.size w w' := by
  have hw := wrong_any 1 (by decide) w
  rw [show Lib.decDigits 1 = [49] from by decide +kernel] at hw
  have Hw := Lib.hid hw
  clear hw
  go_enter Tryz.func11, Tryz.ntmps11
  go_wp2_with fail
  refine Hw.out.mono ?_
  rintro e w1 ⟨rfl, q⟩
  have Q := Lib.hid q
  clear q
  go_wp2_with fail
  go_ret
  exact ⟨rfl, Q.out⟩
/-- The library's MaxLen holds a number. -/
def MaxIs (w : World) : Prop := ∃ m : Int, w.cell? ⟨Tryz.laysM146_ren.g 1, 0, none⟩ = some (.int .i64 m)
theorem MaxIs.below {w w' : World} (h : MaxIs w) (q : Below w.heap.size w w') : MaxIs w' := by
  obtain ⟨m, h⟩ := h
  exact ⟨m, cell_below q h⟩
theorem split_any (s : ByteArray) (w : World) (hs : s.size < 4294967281) (hm : MaxIs w) :
    Calls Tryz.prog 30 #[.string s, .string ⟨#[32]⟩] w fun e w' => ∃ r, e = .returned (.slice (some ⟨w.heap.size, 0, none⟩) (r.length + 1) (r.length + 1)) ∧ w' = w.alloc (.cells (((word1 s) :: r).map Value.string).toArray 9) ∧ (Lib.countB s ⟨#[32]⟩ = 0 → r = []) := by
  obtain ⟨m, hm⟩ := hm
  refine (Any.strings_Split { Tryz.laysM146 with } Tryz.laysM146.i9 s ⟨#[32]⟩ m w hs hm (by decide)).mono ?_
  rintro e w' ⟨rfl, rfl⟩
  obtain ⟨r, hr⟩ := split_head s
  have hl := Lib.splitB_all ⟨#[32]⟩ (by decide) 0 _ s rfl
  rw [hr, List.length_cons] at hl
  refine ⟨r, ?_, ?_, fun h0 => ?_⟩
  · rw [show Lib.countB s ⟨#[32]⟩ + 1 = r.length + 1 from by omega]
  · rw [hr]; rfl
  · exact List.eq_nil_of_length_eq_zero (by omega)
set_option maxRecDepth 100000 in
set_option maxHeartbeats 4000000 in
theorem do_none (b : Nat) (s : ByteArray) (w : World) (hs : s.size ≤ 300) (hm : MaxIs w) (hno : hasName (word1 s).data.toList = false) :
    Calls Tryz.prog 11 #[.pointer (some ⟨b, 0, none⟩), .string s] w fun e w' => e = .returned (sV [101, 114, 114, 111, 114, 32, 51]) ∧ Below w.heap.size w w' := by
  have h1 := word1_size s
  have hsp := split_any s w (by omega) hm
  have Hsp := Lib.hid hsp; have H1 := Lib.hid h1
  clear hsp h1 hm
  go_enter Tryz.func11, Tryz.ntmps11
  go_wp2_with fail
  refine Hsp.out.mono ?_
  rintro e w1 ⟨r, rfl, hw1, -⟩
  obtain ⟨x, hx⟩ : ∃ x, word1 s = x := ⟨_, rfl⟩
  rw [hx] at H1 hno hw1
  obtain ⟨n, hn⟩ : ∃ n, r.length + 1 = n := ⟨_, rfl⟩
  rw [hn]
  have hpos : 0 < n := by omega
  have k1 : Below w.heap.size w w1 := by rw [hw1]; exact (br w).alloc (Nat.le_refl _) _
  have c1 : ∀ w', Below w1.heap.size w1 w' → w'.cell? ⟨w.heap.size, 0, none⟩ = some (.string x) := fun w' q => by
    have g : w1.heap[w.heap.size]? = some (.cells ((x :: r).map Value.string).toArray 9 (0, 0)) := by rw [hw1]; exact heap_alloc_new w _
    exact (cell_of_row w' w.heap.size 0 _ _ _ (sb g w' q)).trans (by simp)
  have K1 := Lib.hid k1
  clear k1 hw1 hn hx
  go_upto_region 4 with (fail)
  refine HA.g (fun w' : World => Below w1.heap.size w1 w') ?_
  have q0 := (br w1).drew
  have hpi : (0 : Int) < n := by omega
  refine HA.t ?_ [1, 2, 3] q0 ?_
  refine HA.c 0 (cmds_any _) ?_
  rintro e w2 ⟨rfl, hc, k2⟩
  have q2 := bt q0 k2
  obtain ⟨v, ps, hl, -⟩ := hc.look x (by have := H1.out; unfold maxLen; omega)
  rw [hno, World.size_drew] at hl
  refine ⟨_, rfl, q2, fun _ => ?_⟩
  refine HA.v 4 w2 (.tuple #[v, .bool false]) q2 ?_
  refine HA.t ?_ [5, 6, 7, 8, 9] q2 ?_
  refine HA.d ?_
  have Q2 := Lib.hid (K1.out.trans (q2.mono K1.out.size))
  have hw := wrong_any 3 (by decide) w2
  rw [show Lib.decDigits 3 = [51] from by decide +kernel] at hw
  have Hw := Lib.hid hw
  clear hw q2 hl hc k2 q0 c1
  go_wp2_with fail
  refine Hw.out.mono ?_
  rintro e w3 ⟨rfl, q⟩
  have Q := Lib.hid (Q2.out.trans (q.mono Q2.out.size))
  clear q
  go_wp2_with fail
  go_ret
  exact ⟨rfl, Q.out⟩
theorem new_any (w : World) : Calls Tryz.prog 9 #[] w fun e w' => e = .returned (.pointer (some ⟨w.heap.size, 0, none⟩)) ∧ w' = w.alloc (.cells #[.slice none 0 0, .int .i64 0, .int .i64 0, .int .i64 0, .int .i64 0, .int .i64 0, .int .i64 0, .int .i64 0, .int .i64 0, .int .i64 0, .int .i64 0, .int .i64 0, .slice none 0 0, .slice none 0 0, .slice none 0 0, .int .i64 0, .slice none 0 0, .slice none 0 0, .slice none 0 0, .slice none 0 0, .bool false] 61) := by
  go_enter Tryz.func9, Tryz.ntmps9
  go_wp2_with fail
  go_ret
  exact ⟨rfl, rfl⟩
set_option maxRecDepth 100000 in
set_option maxHeartbeats 4000000 in
theorem count_any0 (b : Nat) (A : Option Addr) (c : Nat) (w : World) (hb : w.heap[b]? = some (.cells #[.slice none 0 0, .int .i64 0, .int .i64 0, .int .i64 0, .int .i64 0, .int .i64 0, .int .i64 0, .int .i64 0, .int .i64 0, .int .i64 0, .int .i64 0, .int .i64 0, .slice none 0 0, .slice none 0 0, .slice none 0 0, .int .i64 0, .slice none 0 0, .slice none 0 0, .slice none 0 0, .slice none 0 0, .bool false] 61 (0, 0))) :
    Calls Tryz.prog 51 #[.pointer (some ⟨b, 0, none⟩), .slice A 0 c] w fun e w' => e = .returned (sV [48, 32, 48, 32, 48]) ∧ Below w.heap.size w w' := by
  have r1 : ∀ w', Below w.heap.size w w' → w'.cell? ⟨b, 12, none⟩ = some (.slice none 0 0) := fun w' q => cell_of_row w' b 12 _ _ _ (sb hb w' q)
  have r2 : ∀ w', Below w.heap.size w w' → w'.cell? ⟨b, 13, none⟩ = some (.slice none 0 0) := fun w' q => cell_of_row w' b 13 _ _ _ (sb hb w' q)
  have r3 : ∀ w', Below w.heap.size w w' → w'.cell? ⟨b, 14, none⟩ = some (.slice none 0 0) := fun w' q => cell_of_row w' b 14 _ _ _ (sb hb w' q)
  clear hb
  go_enter Tryz.func51, Tryz.ntmps51
  go_upto_region 3 with (fail)
  refine HA.g (fun w' : World => Below w.heap.size w w') ?_
  have q0 := (br w).drew
  refine HA.t ?_ [0, 1, 2, 3, 4, 5, 6, 7, 8, 9, 10, 11, 12, 13, 14, 15, 16, 17, 18, 19, 20] q0 ?_
  clear r1 r2 r3
  have q1 : Below w.heap.size w (w.drew.alloc (.cells #[.iface 3 (.int .i64 0), .iface 3 (.int .i64 0), .iface 3 (.int .i64 0)] 20)) := q0.alloc q0.size _
  have g1 := heap_alloc_new w.drew (.cells #[.iface 3 (.int .i64 0), .iface 3 (.int .i64 0), .iface 3 (.int .i64 0)] 20)
  obtain ⟨w1, hw1⟩ : ∃ w1, w.drew.alloc (.cells #[.iface 3 (.int .i64 0), .iface 3 (.int .i64 0), .iface 3 (.int .i64 0)] 20) = w1 := ⟨_, rfl⟩
  rw [hw1] at q1 g1
  refine HA.v 21 w1 (.slice (some ⟨w.heap.size, 0, none⟩) 3 3) q1 ?_ (he := by rw [← hw1]; go_simp)
  have g1' : w1.heap[w.heap.size]? = _ := g1
  have hw := words_any w.heap.size 3 [(.iface 3 (.int .i64 ((0 : Nat) : Int)), Lib.decDigits 0), (.iface 3 (.int .i64 ((0 : Nat) : Int)), Lib.decDigits 0), (.iface 3 (.int .i64 ((0 : Nat) : Int)), Lib.decDigits 0)] w1 (fun p hp => by
      simp only [List.mem_cons, List.not_mem_nil, or_false] at hp
      rcases hp with rfl | rfl | rfl <;> exact .inr ⟨0, by decide, rfl, rfl⟩) (by simp) (by simp) (fun j p hp => by
      match j with
      | 0 => cases hp; exact cell_of_row w1 w.heap.size 0 _ _ _ g1'
      | 1 => cases hp; exact cell_of_row w1 w.heap.size 1 _ _ _ g1'
      | 2 => cases hp; exact cell_of_row w1 w.heap.size 2 _ _ _ g1'
      | j + 3 => cases hp) (by decide +kernel)
  refine HA.c 22 hw ?_
  rintro e w2 ⟨rfl, k2⟩
  have q2 := bt q1 k2
  refine ⟨_, rfl, q2, fun _ => ?_⟩
  refine HA.t ?_ [23] q2 ?_
  refine HA.d ?_
  have Q := Lib.hid q2
  clear q2 k2 hw g1 g1' q1 q0 hw1
  go_wp2_with fail
  go_ret
  refine ⟨?_, Q.out⟩
  rw [show ([48, 32, 48, 32, 48] : List UInt8) = Lib.join [Lib.decDigits 0, Lib.decDigits 0, Lib.decDigits 0] [32] from by decide +kernel]
  rfl
end Go.Proofs.YtpegdddffenleaaGreatDoor
