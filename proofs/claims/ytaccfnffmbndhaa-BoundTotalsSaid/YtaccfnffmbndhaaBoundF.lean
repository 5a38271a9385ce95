/- bound.Fair, and the example of the chapter (as in BoundX and BoundY, for another seat). -/
import Derived.Test.YtaccfnffmbndhaaShape
import Derived.Test.YtaccfnffmbndhaaBoundPlain
import Derived.Maps.OwnSet
import Derived.Maps.OwnOps
import Derived.KernelRfl
set_option linter.unusedSimpArgs false
set_option linter.unusedVariables false
namespace Go.Proofs.Ytaccfnffmbndhaa
open Go.RowKit Go.Maps

theorem right_any (n : Int) (w : World) :
    Calls Try.prog 15 #[.int .i64 n] w fun e w' => e = .returned (.bool (rightB n)) ∧ w = w' := by
  by_cases h1 : 1 ≤ n
  · by_cases h2 : n ≤ 64
    · go_enter Try.func15, Try.ntmps15
      go_wp2
      go_ret
      exact ⟨by simp [rightB, h1, h2], rfl⟩
    · go_enter Try.func15, Try.ntmps15
      go_wp2
      go_ret
      exact ⟨by simp [rightB, h2], rfl⟩
  · go_enter Try.func15, Try.ntmps15
    go_wp2
    go_ret
    exact ⟨by simp [rightB]; omega, rfl⟩

/-- What the map of last places holds after i picks. -/
def MapIs (D : DataW Unit) (l : List Int) (i : Nat) : Prop :=
  Maps.IsMap D ∧ ∀ x : Int, Maps.has D (.int .i64 x) = (lastAt l i x).isSome ∧ D.atKey (.int .i64 x) (.lit (.int .i64 0)) = .lit (.int .i64 (((lastAt l i x).getD 0 : Nat) : Int))
theorem mapIs_start (l : List Int) : MapIs (.map []) l 0 := ⟨Maps.isMap_empty, fun x => ⟨rfl, rfl⟩⟩
theorem mapIs_step {D : DataW Unit} {l : List Int} {i : Nat} (h : MapIs D l i) (hw : (Lit.int .i64 (nth l i)).wf = true) : MapIs (D.put (.int .i64 (nth l i)) (.lit (.int .i64 (i : Int)))) l (i + 1) := by
  obtain ⟨hM, h⟩ := h
  refine ⟨hM.put _ _, fun x => ?_⟩
  by_cases hx : nth l i = x
  · subst hx
    have hk : WideAt.IsKeyLit (.int .i64 (nth l i)) := trivial
    rw [Maps.has_put_same hM hk, Maps.atKey_put_same hM hk]
    simp [lastAt]
  · have hne : (Lit.int .i64 x) ≠ .int .i64 (nth l i) := fun e => by injection e with _ e; exact hx e.symm
    rw [Maps.has_put_other hne, Maps.atKey_put_other hne, (h x).1, (h x).2]
    simp [lastAt, hx]

theorem law_int : Keyed Try.prog 3 := int_keyed Try.underlying3
theorem zero_int (w : World) : (zeroValue 3).run Try.prog w = .ok (.int .i64 0) w := by kernel_rfl

/-- The closure in bound.Fair. -/
theorem slide_any (m : Int) (l : List Int) (i : Nat) (BL BW BM n : Nat) (D : DataW Unit) (w : World) (hi : i ≤ 140737488355328) (hn : n ≤ 140737488355328) (hm : 1 ≤ m ∧ m ≤ 64) (hwf : (Lit.int .i64 (nth l i)).wf = true)
    (hL : w.cell? ⟨BL, 0, none⟩ = some (.map (some BM))) (hW : w.cell? ⟨BW, 0, none⟩ = some (.int .i64 m)) (hLM : BL ≠ BM) (hWM : BW ≠ BM)
    (hD : MapIs D l i) (hown : w.ownsMap Try.prog 3 (plainElem Try.prog 3) BM n D) :
    Calls Try.prog 16 #[.int .i64 i, .int .i64 (nth l i), .pointer (some ⟨BL, 0, none⟩), .pointer (some ⟨BW, 0, none⟩)] w fun e w' =>
      e = .returned (.bool (goodB m l i)) ∧ ∃ D', MapIs D' l (i + 1) ∧ w'.ownsMap Try.prog 3 (plainElem Try.prog 3) BM (n + 1) D' ∧ w.grownBy w' (some BM) := by
  have Hwf := Lib.hid hwf; clear hwf
  go_enter Try.func16, Try.ntmps16
  have hat0 := (hD.2 (nth l i)).2
  have hhas := (hD.2 (nth l i)).1
  obtain ⟨c0, hc0⟩ : ∃ c0 : Int, c0 = (((lastAt l i (nth l i)).getD 0 : Nat) : Int) := ⟨_, rfl⟩
  obtain ⟨s0, hs0⟩ : ∃ s0 : Bool, s0 = (lastAt l i (nth l i)).isSome := ⟨_, rfl⟩
  rw [← hc0] at hat0
  rw [← hs0] at hhas
  have hcb : 0 ≤ c0 ∧ c0 ≤ i := by
    rw [hc0]
    cases h : lastAt l i (nth l i) with
    | none => simp
    | some k => have := (lastAt_some l _ i k h).1; simp; omega
  have Hc := Lib.hid hc0; have Hs := Lib.hid hs0; have Hat := Lib.hid hat0; have Hhas := Lib.hid hhas; clear hc0 hs0 hat0 hhas
  go_wp2_with (first
    | (at_lookup; refine wpList_lookup_own_ok_int _ rfl _ _ 38 rfl 3 3 .i64 law_int Try.underlying38 Try.underlying3 (zero_int _) BM n D rfl hown _ _ rfl (keyOf_int_mk Try.underlying3 Hwf.out) ?_; intro c hat hwc; rw [Hat.out] at hat; rw [Hhas.out]; injection hat with hat; injection hat with _ hat; rw [← hat]; clear hat hwc)
    | (at_mapUpdate; refine wpList_mapUpdate_own _ rfl _ _ _ 38 rfl 3 3 law_int Try.underlying38 _ BM n D rfl hown (by unfold maxLen; omega) _ _ _ rfl rfl (keyOf_int_mk Try.underlying3 Hwf.out) _ [] (plainElem_int Try.underlying3 (WalkArith.wf_i64 (by omega))) ?_))
  intro w1 hown1 hg1
  have hW1 : w1.cell? ⟨BW, 0, none⟩ = some (.int .i64 m) := hg1.cell hW (by simpa using hWM)
  have hD1 := mapIs_step hD Hwf.out
  have hgood : goodB m l i = (decide (0 ≤ nth l i ∧ nth l i < m) && (!s0 || decide (m ≤ (i : Int) - c0))) := by
    rw [Hc.out, Hs.out, goodB]
    congr 1
    cases lastAt l i (nth l i) <;> simp
  have Hgood := Lib.hid hgood; have HD1 := Lib.hid hD1; have Hown1 := Lib.hid hown1; have Hg1 := Lib.hid hg1
  clear hgood hD1 hown1 hg1 hown hD hL hW
  by_cases g1 : 0 ≤ nth l i
  · by_cases g2 : nth l i < m
    · have e1 : decide (0 ≤ nth l i ∧ nth l i < m) = true := by simp [g1, g2]
      rw [e1] at Hgood
      clear e1
      cases s0 with
      | true =>
        by_cases g3 : m ≤ (i : Int) - c0
        · have e2 : decide (m ≤ (i : Int) - c0) = true := by simp [g3]
          go_wp2
          go_ret
          exact ⟨ret_bool (by rw [Hgood.out, e2]; rfl), _, HD1.out, Hown1.out, Hg1.out⟩
        · have e2 : decide (m ≤ (i : Int) - c0) = false := by simp; omega
          go_wp2
          go_ret
          exact ⟨ret_bool (by rw [Hgood.out, e2]; rfl), _, HD1.out, Hown1.out, Hg1.out⟩
      | false =>
        go_wp2
        go_ret
        exact ⟨ret_bool (by rw [Hgood.out]; rfl), _, HD1.out, Hown1.out, Hg1.out⟩
    · go_wp2
      go_ret
      exact ⟨ret_bool (by rw [Hgood.out]; simp; omega), _, HD1.out, Hown1.out, Hg1.out⟩
  · go_wp2
    go_ret
    exact ⟨ret_bool (by rw [Hgood.out]; simp; omega), _, HD1.out, Hown1.out, Hg1.out⟩

/-- bound.Fair. -/
theorem fair_any (m : Int) (A : Option Addr) (l : List Int) (c : Nat) (w : World) (hl : l.length ≤ 140737488355328) (hA : Rd w A (nums .i64 l)) (hwf : ∀ k, k < l.length → (Lit.int .i64 (nth l k)).wf = true) :
    Calls Try.prog 10 #[.int .i64 m, .slice A l.length c] w fun e w' => e = .returned (.bool (fairB m l)) ∧ Below w.heap.size w w' := by
  have Hwf := Lib.hid hwf; clear hwf
  by_cases hr : rightB m = true
  · have hm : 1 ≤ m ∧ m ≤ 64 := by simpa [rightB] using hr
    have hmm := @run_makeMap Try.prog
    go_enter Try.func10, Try.ntmps10
    go_wp2_with (go_at_call 15; refine (right_any _ _).mono ?_; rintro e w' ⟨rfl, rfl⟩)
    go_loopw [7, 17] (fun v i wr => ∃ k : Nat, k ≤ l.length ∧ i = .int .i64 k ∧ v = .int .i64 (wrongs m l k) ∧ (∃ D, MapIs D l k ∧ wr.ownsMap Try.prog 3 (plainElem Try.prog 3) (w.heap.size + 1) k D) ∧
        wr.cell? ⟨w.heap.size, 0, none⟩ = some (.int .i64 m) ∧ wr.cell? ⟨w.heap.size + 1 + 1, 0, none⟩ = some (.map (some (w.heap.size + 1))) ∧ Below w.heap.size w wr) (fun _ i _ => l.length - (intOf i).toNat)
    case atStart =>
      refine ⟨0, Nat.zero_le _, rfl, rfl, ⟨.map [], mapIs_start l, ?_⟩, ?_, ?_, ?_⟩
      · have := (World.ownsMap_made (H := Unit) (w.alloc (.cells #[.int .i64 m] 3)) Try.prog 3 (plainElem Try.prog 3)).alloc (.cells #[.map (some (w.heap.size + 1))] 38)
        simpa using this
      · simp [go_sem]
      · simp [go_sem]
      · exact (((Below.refl _ w).alloc (Nat.le_refl _) _).alloc (by simp) _).alloc (by simp; omega) _
    case round =>
      obtain ⟨k, hk, rfl, rfl, ⟨D, hD, hown⟩, hcW, hcL, hb⟩ := hrel
      have hwl := wrongs_le m l k
      by_cases hlt : k < l.length
      · obtain ⟨b, o, rfl, hc⟩ := (hA.below hb).num hlt
        have hsl := slide_any m l k (w.heap.size + 1 + 1) w.heap.size (w.heap.size + 1) k D wr (by omega) (by omega) hm (Hwf.out k hlt) hcL hcW (by omega) (by omega) hD hown
        by_cases hg : goodB m l k = true
        · rw [hg] at hsl
          have Hg := Lib.hid hg; have Hsl := Lib.hid hsl; have HD := Lib.hid hD; have Hown := Lib.hid hown; have Hb := Lib.hid hb
          clear hg hsl hD hown hb
          go_wp2_with ((with_reducible refine Hsl.out.mono ?_); rintro e w1 ⟨rfl, D1, hD1, hown1, hg1⟩)
          have hcW1 := hg1.cell hcW (by simp)
          have hcL1 := hg1.cell hcL (by simp)
          go_roundw
          case rel => exact ⟨k + 1, by omega, by go_num, by rw [wrongs, if_pos Hg.out, Nat.add_zero], ⟨D1, hD1, hown1⟩, hcW1, hcL1, Hb.out.grown hg1 Hb.out.size (fun j hj => by cases hj; omega)⟩
          case measure => simp [intOf]; omega
        · have hg' := hg
          rw [Bool.not_eq_true] at hg'
          rw [hg'] at hsl
          have Hg := Lib.hid hg; have Hsl := Lib.hid hsl; have HD := Lib.hid hD; have Hown := Lib.hid hown; have Hb := Lib.hid hb
          clear hg hg' hsl hD hown hb
          go_wp2_with ((with_reducible refine Hsl.out.mono ?_); rintro e w1 ⟨rfl, D1, hD1, hown1, hg1⟩; have hcW1 := hg1.cell hcW (by simp); have hcL1 := hg1.cell hcL (by simp))
          · have hml : m ≤ (l.length : Int) := by assumption
            go_roundw
            case rel => exact ⟨k + 1, by omega, by go_num, by rw [wrongs, if_neg Hg.out, if_pos hml]; go_num, ⟨D1, hD1, hown1⟩, hcW1, hcL1, Hb.out.grown hg1 Hb.out.size (fun j hj => by cases hj; omega)⟩
            case measure => simp [intOf]; omega
          · have hml : (l.length : Int) < m := by assumption
            go_roundw
            case rel => exact ⟨k + 1, by omega, by go_num, by rw [wrongs, if_neg Hg.out, if_neg (by omega), Nat.add_zero], ⟨D1, hD1, hown1⟩, hcW1, hcL1, Hb.out.grown hg1 Hb.out.size (fun j hj => by cases hj; omega)⟩
            case measure => simp [intOf]; omega
      · obtain rfl : k = l.length := by omega
        by_cases hz : wrongs m l l.length = 0
        · have hzb : (((wrongs m l l.length : Nat) : Int) == 0) = true := by simp [hz]
          have Hz := Lib.hid hz; clear hz
          go_wp2
          go_ret
          exact ⟨ret_bool (by rw [fairB, Hz.out, hr]; rfl), hb⟩
        · have hzb : (((wrongs m l l.length : Nat) : Int) == 0) = false := by simp [hz]
          have Hz := Lib.hid hz; clear hz
          go_wp2
          go_ret
          exact ⟨ret_bool (by rw [fairB, hr, decide_eq_false Hz.out]; rfl), hb⟩
  · rw [Bool.not_eq_true] at hr
    have hf : fairB m l = false := by rw [fairB, hr]; rfl
    go_enter Try.func10, Try.ntmps10
    go_wp2_with (go_at_call 15; refine (right_any _ _).mono ?_; rintro e w' ⟨rfl, rfl⟩)
    go_ret
    exact ⟨by rw [hf]; rfl, (Below.refl _ w).alloc (Nat.le_refl _) _⟩

theorem rd_new (w : World) (xs : List Value) (e : TypeId) : Rd (w.alloc (.cells xs.toArray e)) (some ⟨w.heap.size, 0, none⟩) xs := fun k u hu => by
  refine ⟨_, _, rfl, ?_⟩
  rw [Nat.zero_add, cell_of_row _ w.heap.size k xs.toArray e (0, 0) (heap_alloc_new w _)]
  simpa using hu

theorem wf_small {l : List Int} (h : ∀ x ∈ l, 0 ≤ x ∧ x ≤ 1000000) : ∀ k, k < l.length → (Lit.int .i64 (nth l k)).wf = true := fun k hk => by
  have := h (nth l k) (by rw [nth_eq l k hk]; exact List.getElem_mem hk)
  exact WalkArith.wf_i64 (by omega)

/-- The example of the chapter holds. -/
theorem alive23 (w : World) : Calls Try.prog 5 #[] w fun e w' => e = .returned (.bool true) ∧ Below w.heap.size w w' := by
  have f1 := fun W hA => fair_any 2 (some ⟨w.heap.size, 0, none⟩) [1, 0, 1, 0] 4 W (by decide) hA (wf_small (by decide))
  rw [show fairB 2 [1, 0, 1, 0] = true from by decide] at f1
  have f2 := fun B W hA => fair_any 2 (some ⟨B, 0, none⟩) [0, 1, 1] 3 W (by decide) hA (wf_small (by decide))
  rw [show fairB 2 [0, 1, 1] = false from by decide] at f2
  have F1 := Lib.hid f1; have F2 := Lib.hid f2; clear f1 f2
  go_enter Try.func5, Try.ntmps5
  go_wp2_with fail
  refine (F1.out _ (rd_new w (nums .i64 [1, 0, 1, 0]) 3)).mono ?_
  rintro e w1 ⟨rfl, hb1⟩
  have hs1 := hb1.size
  go_wp2_with fail
  refine (F2.out _ _ (rd_new w1 (nums .i64 [0, 1, 1]) 3)).mono ?_
  rintro e w2 ⟨rfl, hb2⟩
  go_wp2_with fail
  go_ret
  refine ⟨rfl, ?_⟩
  simp at hs1
  refine (((Below.refl _ w).alloc (Nat.le_refl _) _).trans (hb1.mono (by simp))).trans ?_
  exact ((Below.refl _ w1).alloc (by omega) _).trans (hb2.mono (by simp; omega))

end Go.Proofs.Ytaccfnffmbndhaa
