/- The script's commands. -/
import Derived.Test.YtpegdddffenleaaGreatDoorScn1
import Derived.Maps.OwnSet
import Derived.Maps.OwnOps
import Derived.KernelRfl
set_option linter.unusedSimpArgs false
set_option linter.unusedVariables false
namespace Go.Proofs.YtpegdddffenleaaGreatDoor
open Go.RowKit Go.Maps

theorem wrong_any (i : Nat) (hi : i < 100) (w : World) : Calls Tryz.prog 29 #[.int .i64 i] w fun e w' => e = .returned (sV ([101, 114, 114, 111, 114, 32] ++ Lib.decDigits i)) ∧ Below w.heap.size w w' := by
  have hd : (Lib.decDigits i).length ≤ 100 := by
    have : ∀ i : Fin 100, (Lib.decDigits i.1).length ≤ 100 := by decide +kernel
    exact this ⟨i, hi⟩
  obtain ⟨W1, hW⟩ : ∃ W1, w.alloc (.cells #[.iface 9 (sV [101, 114, 114, 111, 114]), .iface 3 (.int .i64 (i : Int))] 20) = W1 := ⟨_, rfl⟩
  have k1 : Below w.heap.size w W1 := by rw [← hW]; exact (br w).alloc (Nat.le_refl _) _
  have g1 : W1.heap[w.heap.size]? = some (.cells #[.iface 9 (sV [101, 114, 114, 111, 114]), .iface 3 (.int .i64 (i : Int))] 20 (0, 0)) := by rw [← hW]; exact heap_alloc_new w _
  have hw := words_any w.heap.size 2 [(.iface 9 (sV [101, 114, 114, 111, 114]), [101, 114, 114, 111, 114]), (.iface 3 (.int .i64 (i : Int)), Lib.decDigits i)] W1 (fun p hp => by
      simp only [List.mem_cons, List.not_mem_nil, or_false] at hp
      rcases hp with rfl | rfl
      · exact .inl rfl
      · exact .inr ⟨i, hi, rfl, rfl⟩) (by simp) (by simp) (fun j p hp => by
      match j with
      | 0 => cases hp; exact cell_of_row W1 w.heap.size 0 _ _ _ g1
      | 1 => cases hp; exact cell_of_row W1 w.heap.size 1 _ _ _ g1
      | j + 2 => cases hp) (by simp [Lib.join]; omega)
  have Hw := Lib.hid hw; have HW := Lib.hid hW; have K1 := Lib.hid k1
  clear hw hW k1 g1 hd
  unfold sV at HW
  go_enter Tryz.func29, Tryz.ntmps29
  go_wp2_with fail
  rw [HW.out]
  refine Hw.out.mono ?_
  rintro e w2 ⟨rfl, q⟩
  have Q := Lib.hid (K1.out.trans (q.mono K1.out.size))
  clear q
  go_wp2_with fail
  go_ret
  refine ⟨?_, Q.out⟩
  rw [show (101 :: 114 :: 114 :: 111 :: 114 :: 32 :: Lib.decDigits i : List UInt8) = Lib.join [[101, 114, 114, 111, 114], Lib.decDigits i] [32] from by simp [Lib.join]]
  rfl
open Classical in
/-- What a function value is told as. -/
noncomputable def rdF (v : Value) : Option (DataW Unit × List MemPlace) :=
  if h : ∃ i : Nat, v = .func (.func i) #[] #[] then some (.lit (.int .i64 (h.choose : Nat)), []) else if v = .nilFunc then some (.lit (.int .i64 (-1)), []) else none
theorem rdF_mk (i : Nat) : rdF (.func (.func i) #[] #[]) = some (.lit (.int .i64 i), []) := by
  have h : ∃ j : Nat, Value.func (.func i) #[] #[] = .func (.func j) #[] #[] := ⟨i, rfl⟩
  unfold rdF
  rw [dif_pos h]
  have e := h.choose_spec
  injection e with e
  injection e with e
  rw [← e]
theorem rdF_nil : rdF .nilFunc = some (.lit (.int .i64 (-1)), []) := by
  unfold rdF
  rw [dif_neg (by rintro ⟨i, h⟩; cases h), if_pos rfl]
theorem rdF_func {v : Value} {i : Nat} {ps : List MemPlace} (h : rdF v = some (.lit (.int .i64 (i : Int)), ps)) : v = .func (.func i) #[] #[] := by
  unfold rdF at h
  split at h
  · rename_i h0
    simp only [Option.some.injEq, Prod.mk.injEq, DataW.lit.injEq, Lit.int.injEq, true_and, Int.natCast_inj] at h
    have e := h0.choose_spec
    rw [h.1] at e
    exact e
  · split at h
    · simp only [Option.some.injEq, Prod.mk.injEq, DataW.lit.injEq, Lit.int.injEq, true_and] at h
      have := h.1
      omega
    · cases h
def dOf (l : List (List UInt8 × Nat)) : DataW Unit := l.foldl (fun D p => D.put (.string p.1) (.lit (.int .i64 p.2))) (.map [])
theorem dOf_snoc (l : List (List UInt8 × Nat)) (k : List UInt8) (f : Nat) : dOf (l ++ [(k, f)]) = (dOf l).put (.string k) (.lit (.int .i64 f)) := by
  unfold dOf; rw [List.foldl_append]; rfl
def CmdAt (l : List (List UInt8 × Nat)) (b : Nat) (w : World) : Prop := w.ownsMap Tryz.prog 9 rdF b l.length (dOf l)
theorem str_key : Keyed Tryz.prog 9 := string_keyed Tryz.underlying9
theorem CmdAt.below {l : List (List UInt8 × Nat)} {b : Nat} {w w' : World} (h : CmdAt l b w) (q : Below w.heap.size w w') : CmdAt l b w' := by
  obtain ⟨es, c, hb, F, hs, hD⟩ := h
  exact ⟨es, c, (q.block _ (Array.getElem?_eq_some_iff.1 hb).1).trans hb, F, hs, hD⟩
def CmdB (B : Nat) (W0 : World) (l : List (List UInt8 × Nat)) (b : Nat) (w : World) : Prop := CmdAt l b w ∧ Below B W0 w ∧ B ≤ b
theorem CmdB.ins {W0 w : World} {l : List (List UInt8 × Nat)} {b B : Nat} (h : CmdB B W0 l b w) (k : List UInt8) (f : Nat) (hl : l.length < 100) (hk : k.length < 100) :
    ∃ w', (Instr.mapUpdate 77 (.map (some b)) (.string ⟨k.toArray⟩) (.func (.func f) #[] #[])).run Tryz.prog w = .ok () w' ∧ CmdB B W0 (l ++ [(k, f)]) b w' := by
  obtain ⟨h1, h2, h3⟩ := h
  obtain ⟨w', e1, e2, e3⟩ := World.ownsMap.update (val := .func (.func f) #[] #[]) h1 str_key Tryz.underlying77 (by unfold maxLen; omega) (WideMaps.keyOf_string_mk Tryz.underlying9 (s := ⟨k.toArray⟩) (by show k.length ≤ _; unfold maxLen; omega)) (d := .lit (.int .i64 f)) (ps := []) (rdF_mk f)
  have hz : B ≤ w.heap.size := Nat.le_trans h3 (Nat.le_of_lt h1.lt)
  exact ⟨w', e1, by unfold CmdAt; rw [dOf_snoc, List.length_append]; exact e2, h2.grown e3 hz fun k hk => by cases hk; exact h3, h3⟩
def cmdL : List (List UInt8 × Nat) := [([98, 101, 115, 116], 46), ([98, 111, 117, 110, 100], 47), ([99, 104, 101, 99, 107], 48), ([99, 108, 101, 97, 114], 49), ([99, 111, 110, 102, 105, 103], 50), ([99, 111, 117, 110, 116], 51), ([100, 114, 97, 119, 115], 52), ([101, 120, 97, 109, 112, 108, 101], 53), ([112, 97, 114, 97, 109, 115], 54), ([112, 105, 99, 107, 115], 55), ([114, 117, 110], 56), ([115, 104, 111, 119], 57), ([115, 116, 97, 114, 116], 58)]
set_option maxRecDepth 100000 in
set_option maxHeartbeats 4000000 in
theorem cmds_any (w : World) : Calls Tryz.prog 31 #[] w fun e w' => e = .returned (.map (some w.heap.size)) ∧ CmdAt cmdL w.heap.size w' ∧ Below w.heap.size w w' := by
  have c0 : CmdB w.heap.size w [] w.heap.size (w.alloc (.map #[] 0)) := ⟨World.ownsMap_made w Tryz.prog 9 rdF, (br w).alloc (Nat.le_refl _) _, Nat.le_refl _⟩
  obtain ⟨w1, e1, c1⟩ := c0.ins [98, 101, 115, 116] 46 (by decide) (by decide)
  clear c0
  obtain ⟨w2, e2, c2⟩ := c1.ins [98, 111, 117, 110, 100] 47 (by decide) (by decide)
  clear c1
  obtain ⟨w3, e3, c3⟩ := c2.ins [99, 104, 101, 99, 107] 48 (by decide) (by decide)
  clear c2
  obtain ⟨w4, e4, c4⟩ := c3.ins [99, 108, 101, 97, 114] 49 (by decide) (by decide)
  clear c3
  obtain ⟨w5, e5, c5⟩ := c4.ins [99, 111, 110, 102, 105, 103] 50 (by decide) (by decide)
  clear c4
  obtain ⟨w6, e6, c6⟩ := c5.ins [99, 111, 117, 110, 116] 51 (by decide) (by decide)
  clear c5
  obtain ⟨w7, e7, c7⟩ := c6.ins [100, 114, 97, 119, 115] 52 (by decide) (by decide)
  clear c6
  obtain ⟨w8, e8, c8⟩ := c7.ins [101, 120, 97, 109, 112, 108, 101] 53 (by decide) (by decide)
  clear c7
  obtain ⟨w9, e9, c9⟩ := c8.ins [112, 97, 114, 97, 109, 115] 54 (by decide) (by decide)
  clear c8
  obtain ⟨w10, e10, c10⟩ := c9.ins [112, 105, 99, 107, 115] 55 (by decide) (by decide)
  clear c9
  obtain ⟨w11, e11, c11⟩ := c10.ins [114, 117, 110] 56 (by decide) (by decide)
  clear c10
  obtain ⟨w12, e12, c12⟩ := c11.ins [115, 104, 111, 119] 57 (by decide) (by decide)
  clear c11
  obtain ⟨w13, e13, c13⟩ := c12.ins [115, 116, 97, 114, 116] 58 (by decide) (by decide)
  clear c12
  have C := Lib.hid c13
  clear c13
  have hmm := @run_makeMap Tryz.prog
  go_enter Tryz.func31, Tryz.ntmps31
  go_wp2_with fail
  go_ret
  exact ⟨rfl, C.out.1, C.out.2.1⟩
end Go.Proofs.YtpegdddffenleaaGreatDoor
