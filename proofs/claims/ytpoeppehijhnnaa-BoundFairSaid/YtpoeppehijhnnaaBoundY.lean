/- The walks of the laws BoundFair and BoundTurns. -/
import Derived.Test.YtpoeppehijhnnaaBoundX
import Derived.Test.YtpoeppehijhnnaaSlicesEq
import Derived.Test.YtpoeppehijhnnaaLawLib
namespace Go.Proofs.Ytpoeppehijhnnaa
open Go.RowKit

theorem rd_new (w : World) (xs : List Value) (e : TypeId) : Rd (w.alloc (.cells xs.toArray e)) (some ⟨w.heap.size, 0, none⟩) xs := fun k u hu => by
  refine ⟨_, _, rfl, ?_⟩
  rw [Nat.zero_add, cell_of_row _ w.heap.size k xs.toArray e (0, 0) (heap_alloc_new w _)]
  simpa using hu

theorem wf_small {l : List Int} (h : ∀ x ∈ l, 0 ≤ x ∧ x ≤ 1000000) : ∀ k, k < l.length → (Lit.int .i64 (nth l k)).wf = true := fun k hk => by
  have := h (nth l k) (by rw [nth_eq l k hk]; exact List.getElem_mem hk)
  exact WalkArith.wf_i64 (by omega)

/-- The example of the chapter holds. -/
theorem alive23 (w : World) : Calls Try.prog 11 #[] w fun e w' => e = .returned (.bool true) ∧ Below w.heap.size w w' := by
  have f1 := fun W hA => fair_any 2 (some ⟨w.heap.size, 0, none⟩) [1, 0, 1, 0] 4 W (by decide) hA (wf_small (by decide))
  rw [show fairB 2 [1, 0, 1, 0] = true from by decide] at f1
  have f2 := fun B W hA => fair_any 2 (some ⟨B, 0, none⟩) [0, 1, 1] 3 W (by decide) hA (wf_small (by decide))
  rw [show fairB 2 [0, 1, 1] = false from by decide] at f2
  have F1 := Lib.hid f1; have F2 := Lib.hid f2; clear f1 f2
  go_enter Try.func11, Try.ntmps11
  go_wp2_with fail
  refine (F1.out _ (rd_new w (nums .i64 [1, 0, 1, 0]) 3)).mono ?_
  rintro e w1 ⟨rfl, hb1⟩
  have hs1 := hb1.size
  go_wp2_with fail
  refine (F2.out _ _ (rd_new w1 (nums .i64 [0, 1, 1]) 3)).mono ?_
  rintro e w2 ⟨rfl, hb2⟩
  go_wp2_with fail
  go_ret
  refine ⟨rfl, ?_⟩
  simp at hs1
  refine (((Below.refl _ w).alloc (Nat.le_refl _) _).trans (hb1.mono (by simp))).trans ?_
  exact ((Below.refl _ w1).alloc (by omega) _).trans (hb2.mono (by simp; omega))

set_option maxRecDepth 100000 in
theorem BoundFair_walk {H : Type} {enc : TypeId × Value → H} {base : Nat} {v0 v1 : Value} {d0 d1 : DataW H} {p0 p1 : List MemPlace} (W : World)
    (o0 : Value.okWide Try.prog W .any base 3 v0) (h0 : DataW.Trod enc Try.prog W 0 (fun _ => true) true 3 v0 d0 p0)
    (o1 : Value.okWide Try.prog W .any base 22 v1) (h1 : DataW.Trod enc Try.prog W 0 (fun _ => true) true 22 v1 d1 p1) :
    Calls Try.prog 3 #[v0, v1] W fun e w' => e = .returned (.bool true) ∧ Below W.heap.size W w' := by
  obtain ⟨m, rfl, rfl, rfl, wm⟩ := Go.ChangeShapes.open_int Try.underlying3 o0 h0
  obtain ⟨A, c, l, rfl, hlc, hc63, hA, hwf⟩ := open_nums Try.underlying22 Try.underlying3 (by kernel_rfl) o1 h1
  clear h0 h1 o0 o1 wm
  have Hwf := Lib.hid hwf; clear hwf
  by_cases hl : 400 < l.length
  · go_enter Try.func3, Try.ntmps3
    go_wp2_with (go_at_call 11; refine (alive23 _).mono ?_; rintro e w' ⟨rfl, hb⟩)
    go_ret
    exact ⟨rfl, hb⟩
  · have f1 := fun w hA => fair_any m A l c w (by omega) hA Hwf.out
    have f2 := fun w hA => rfair_any m A l c w (by omega) hlc hA
    rw [← fair_same] at f2
    generalize fairB m l = b at f1 f2
    go_enter Try.func3, Try.ntmps3
    go_wp2_with fail
    refine (alive23 _).mono ?_
    rintro e w1 ⟨rfl, hb1⟩
    go_wp2_with fail
    refine (f1 w1 (hA.below hb1)).mono ?_
    rintro e w2 ⟨rfl, hb2⟩
    have hb12 := hb1.trans (hb2.mono hb1.size)
    go_wp2_with fail
    refine (f2 w2 (hA.below hb12)).mono ?_
    rintro e w3 ⟨rfl, rfl⟩
    clear f1 f2
    cases b
    all_goals
      go_wp2
      go_ret
      exact ⟨rfl, hb12⟩

set_option maxRecDepth 100000 in
theorem BoundTurns_walk {H : Type} {enc : TypeId × Value → H} {base : Nat} {v0 v1 : Value} {d0 d1 : DataW H} {p0 p1 : List MemPlace} (W : World)
    (o0 : Value.okWide Try.prog W .any base 3 v0) (h0 : DataW.Trod enc Try.prog W 0 (fun _ => true) true 3 v0 d0 p0)
    (o1 : Value.okWide Try.prog W .any base 3 v1) (h1 : DataW.Trod enc Try.prog W 0 (fun _ => true) true 3 v1 d1 p1) :
    Calls Try.prog 4 #[v0, v1] W fun e w' => e = .returned (.bool true) ∧ Below W.heap.size W w' := by
  obtain ⟨m, rfl, rfl, rfl, wm⟩ := Go.ChangeShapes.open_int Try.underlying3 o0 h0
  obtain ⟨n, rfl, rfl, rfl, wn⟩ := Go.ChangeShapes.open_int Try.underlying3 o1 h1
  clear h0 h1 o0 o1 wm wn
  by_cases hn : 2000 < n
  · go_enter Try.func4, Try.ntmps4
    go_wp2_with (go_at_call 11; refine (alive23 _).mono ?_; rintro e w' ⟨rfl, hb⟩)
    go_ret
    exact ⟨rfl, hb⟩
  · have hlen : (turnsOf m n).length ≤ 2000 := by
      unfold turnsOf; split
      · rw [turns_length]; omega
      · simp
    have hsmall : ∀ k, k < (turnsOf m n).length → (Lit.int .i64 (nth (turnsOf m n) k)).wf = true := by
      unfold turnsOf; split
      · rename_i hr
        have hm : 1 ≤ m ∧ m ≤ 64 := by simpa [rightB] using hr
        intro k hk
        rw [turns_length] at hk
        rw [turns_nth m _ k hk]
        have h1 := Int.emod_nonneg (k : Int) (show m ≠ 0 by omega)
        have h2 := Int.emod_lt_of_pos (k : Int) (show 0 < m by omega)
        exact WalkArith.wf_i64 (by omega)
      · intro k hk; simp at hk
    have hfair : rightB m = true → fairB m (turnsOf m n) = true := fun h => by rw [turnsOf, if_pos h]; exact fair_turns m _ h
    have T1 := Lib.hid (fun w => turns_any m n w (by omega))
    have T2 := Lib.hid (fun w => rturns_any m n w (by omega))
    generalize turnsOf m n = l at *
    have Hs := Lib.hid hsmall; have Hf := Lib.hid hfair; clear hsmall hfair
    go_enter Try.func4, Try.ntmps4
    go_wp2_with fail
    refine (T1.out _).mono ?_
    rintro e w1 ⟨v1, rfl, own1, hb1⟩
    obtain ⟨A1, c1, rfl, hc1⟩ := own_form own1
    have r1 := Rd.own own1
    go_wp2_with fail
    refine (alive23 _).mono ?_
    rintro e w2 ⟨rfl, hb2⟩
    go_wp2_with fail
    refine (T2.out _).mono ?_
    rintro e w3 ⟨v3, rfl, own3, hb3⟩
    obtain ⟨A3, c3, rfl, hc3⟩ := own_form own3
    have r3 := Rd.own own3
    have r1' := (r1.below hb2).below hb3
    have hb13 := (hb1.trans (hb2.mono hb1.size)).trans (hb3.mono (Nat.le_trans hb1.size hb2.size))
    have heq := equal_any A1 A3 l l c1 c3 w3 r1' r3 (by omega)
    rw [decide_eq_true rfl] at heq
    have hEq := Lib.hid heq; clear heq own1 own3 T1 T2 r1
    go_wp2_with fail
    refine hEq.out.mono ?_
    rintro e w4 ⟨rfl, n4, rfl⟩
    by_cases h1 : 1 ≤ m
    · by_cases h2 : m ≤ 64
      · have hff := fair_any m A1 l c1 (w3.drewN n4) (by omega) (r1'.drewN _) Hs.out
        rw [Hf.out (by simp [rightB, h1, h2])] at hff
        have Hff := Lib.hid hff; clear hff
        go_wp2_with fail
        refine Hff.out.mono ?_
        rintro e w5 ⟨rfl, hb5⟩
        go_wp2
        go_ret
        exact ⟨rfl, (below_drewN hb13 n4).trans (hb5.mono (by simpa using hb13.size))⟩
      · go_wp2
        go_ret
        exact ⟨rfl, below_drewN hb13 n4⟩
    · go_wp2
      go_ret
      exact ⟨rfl, below_drewN hb13 n4⟩
end Go.Proofs.Ytpoeppehijhnnaa
