/- The walk of the law LinkKeeps. -/
import Derived.Test.YtpoeppehijhnnaaLinkM
import Derived.Test.YtpoeppehijhnnaaLinkE
import Derived.Test.YtpoeppehijhnnaaLinkO
import Derived.Test.YtpoeppehijhnnaaLinkP
namespace Go.Proofs.Ytpoeppehijhnnaa
open Go.RowKit

theorem clone3_any (A : Option Addr) (zs : List Int) (c : Nat) (w : World) (hA : Rd w A (nums .i64 zs)) (hl : zs.length ≤ 17592186043904) :
    Calls Try.prog 27 #[.slice A zs.length c] w fun e w' => ∃ v, e = .returned v ∧ w'.ownsRow w.heap.size 2 1 v zs.length (nums .i64 zs) ∧ Below w.heap.size w w' := by
  go_enter Try.func27, Try.ntmps27
  go_wp2_with (at_builtin; refine wpList_app et_i64s _ rfl (.tmp 3) (.tmp 4) rfl w.heap.size _ 0 [] rfl (own_empty w 2 1) _ zs.length c (nums .i64 zs) rfl (hA.alloc _) (by rw [nums_length]; omega) (nums_cell _ _) (by omega) (by unfold maxLen; omega) (by simp) ?_)
  intro A' c' w1 hown hb _ _
  have hb1 := ((Below.refl _ w).alloc (Nat.le_refl _) (.cells #[] 2)).trans hb
  have Hown := Lib.hid hown; have Hb1 := Lib.hid hb1; clear hown hb hb1
  go_wp2
  go_ret
  exact ⟨_, rfl, Hown.out, Hb1.out⟩

/-- A number of a row of one's own, changed. -/
theorem keeps_row {w : World} {base n g c : Nat} {xs : List Int} (h : w.ownsRow base 2 1 (.slice (some ⟨g, 0, none⟩) n c) n (nums .i64 xs)) (k : Nat) (v : Int) :
    (w.setCell ⟨g, k, none⟩ (.int .i64 v)).ownsRow base 2 1 (.slice (some ⟨g, 0, none⟩) n c) n (nums .i64 (xs.set k v)) := by
  have := (h.stored k (.int .i64 v)).1
  rwa [nums_set] at this
theorem keeps_cell {w : World} {base n g c : Nat} {xs : List Int} (h : w.ownsRow base 2 1 (.slice (some ⟨g, 0, none⟩) n c) n (nums .i64 xs)) {k : Nat} (hk : k < n) : w.cell? ⟨g, k, none⟩ = some (.int .i64 (nth xs k)) := by
  rw [h.cellAt k (by omega)]
  have := h.1
  rw [nums_length] at this
  exact nums_get .i64 xs k (by omega)
theorem keeps_box6 {w : World} {b : Nat} {x0 x1 x2 x3 x4 x5 : Value} {t : TypeId} (h : w.heap[b]? = some (.cells #[x0, x1, x2, x3, x4, x5] t (0, 0))) (y0 y1 y2 y3 y4 y5 : Value) :
    ((((((w.setCell ⟨b, 0, none⟩ y0).setCell ⟨b, 1, none⟩ y1).setCell ⟨b, 2, none⟩ y2).setCell ⟨b, 3, none⟩ y3).setCell ⟨b, 4, none⟩ y4).setCell ⟨b, 5, none⟩ y5).heap[b]? = some (.cells #[y0, y1, y2, y3, y4, y5] t (0, 0)) := by
  have h1 := heap_setCell_same w b 0 _ _ y0 h
  have h2 := heap_setCell_same _ b 1 _ _ y1 h1
  have h3 := heap_setCell_same _ b 2 _ _ y2 h2
  have h4 := heap_setCell_same _ b 3 _ _ y3 h3
  have h5 := heap_setCell_same _ b 4 _ _ y4 h4
  exact heap_setCell_same _ b 5 _ _ y5 h5
theorem keeps_keep6 {w : World} {b : Nat} (y0 y1 y2 y3 y4 y5 : Value) : Keep (fun i => i = b) w ((((((w.setCell ⟨b, 0, none⟩ y0).setCell ⟨b, 1, none⟩ y1).setCell ⟨b, 2, none⟩ y2).setCell ⟨b, 3, none⟩ y3).setCell ⟨b, 4, none⟩ y4).setCell ⟨b, 5, none⟩ y5) := by
  refine Keep.setCell (S := fun i => i = b) ?_ _ (.inr rfl) _
  refine Keep.setCell (S := fun i => i = b) ?_ _ (.inr rfl) _
  refine Keep.setCell (S := fun i => i = b) ?_ _ (.inr rfl) _
  refine Keep.setCell (S := fun i => i = b) ?_ _ (.inr rfl) _
  refine Keep.setCell (S := fun i => i = b) ?_ _ (.inr rfl) _
  exact Keep.setCell (S := fun i => i = b) (Keep.refl _ _) _ (.inr rfl) _
/-- The first loop's relation. -/
def KeepRel (W w : World) (hb base O : Nat) (g5 : Option Nat) (m : Msg) (A1 : Option Addr) (c1 : Nat) (mbox : Prop) : Prop :=
  ∃ xs : List Int, w.ownsRow hb 2 1 (.slice A1 m.vals.length c1) m.vals.length (nums .i64 xs) ∧ LinkAt w base (W.heap.size + 1) g5 ((LSt.new 2).send m) ∧
    w.heap[O]? = some (.cells #[.int .i64 m.tag.a, .int .i64 m.tag.b, .int .i64 m.tag.c, .int .i64 m.tag.d, .int .i64 m.tag.e, .slice A1 m.vals.length c1] 37 (0, 0)) ∧
    Below W.heap.size W w ∧ (∀ k, (Value.slice A1 m.vals.length c1).ownBlock = some k → k < base) ∧ O < base ∧ W.heap.size < O ∧ W.heap.size + 2 ≤ hb ∧ mbox

set_option maxRecDepth 100000 in
set_option maxRecDepth 100000 in
set_option maxRecDepth 100000 in
set_option maxHeartbeats 3200000 in
theorem keeps_core (t0 t1 t2 t3 t4 : Int) (A : Option Addr) (zs : List Int) (c : Nat) (W : World) (hA : Rd W A (nums .i64 zs)) (hz : zs.length ≤ 9223372036854775807) :
    Calls Try.prog 6 #[.agg #[.int .i64 t0, .int .i64 t1, .int .i64 t2, .int .i64 t3, .int .i64 t4, .slice A zs.length c]] W fun e w' => e = .returned (.bool true) ∧ Below W.heap.size W w' := by
  by_cases hbig : 500 < zs.length
  · go_enter Try.func6, Try.ntmps6
    go_wp2_with fail
    refine (alive18 _).mono ?_
    rintro e w5 ⟨rfl, hb5⟩
    go_wp2_with fail
    go_ret
    refine ⟨rfl, ?_⟩
    refine Below.trans ?_ (hb5.mono (by simp))
    (focus (repeat' (first | (with_reducible exact Below.refl _ _) | (with_reducible assumption) | (with_reducible refine Below.setCell ?_ ?_ _) | (with_reducible refine Below.alloc ?_ ?_ _) | (with_reducible refine below_drewN ?_ _) | (with_reducible refine Below.drew ?_) | (with_reducible exact Nat.le_refl _) | omega | (simp; done) | (simp; omega))))
  · have hzl : zs.length ≤ 500 := by omega
    have hr := fun w' (k : Below W.heap.size W w') => clone3_any A zs c w' (hA.below k) (by omega)
    have Hr := Lib.hid hr; have HA := Lib.hid hA; clear hr hA hz hbig
    go_enter Try.func6, Try.ntmps6
    go_wp2_with fail
    refine (linkNew 2 _ (by decide)).mono ?_
    rintro e w3 ⟨rfl, hw3⟩
    have hL3 : ∀ base, LinkAt w3 base (W.heap.size + 1) none (LSt.new 2) := fun base => by
      have := linkAt_new (W.alloc (.cells #[.int .i64 t0, .int .i64 t1, .int .i64 t2, .int .i64 t3, .int .i64 t4, .slice A zs.length c] 37)) base 2 (by decide) (by decide)
      rw [hw3]; simpa using this
    have hbm3 : w3.heap[W.heap.size]? = some (.cells #[.int .i64 t0, .int .i64 t1, .int .i64 t2, .int .i64 t3, .int .i64 t4, .slice A zs.length c] 37 (0, 0)) := by
      rw [hw3, Below.heap_alloc _ _ _ (by simp)]
      exact heap_alloc_new W _
    have hs3 : w3.heap.size = W.heap.size + 2 := by rw [hw3]; simp
    have hW3 : Below W.heap.size W w3 := by rw [hw3]; (focus (repeat' (first | (with_reducible exact Below.refl _ _) | (with_reducible assumption) | (with_reducible refine Below.setCell ?_ ?_ _) | (with_reducible refine Below.alloc ?_ ?_ _) | (with_reducible refine below_drewN ?_ _) | (with_reducible refine Below.drew ?_) | (with_reducible exact Nat.le_refl _) | omega | (simp; done) | (simp; omega))))
    have hs3a : W.heap.size < w3.heap.size := by omega
    have hs3b : W.heap.size + 1 < w3.heap.size := by omega
    rw [show (W.alloc (.cells #[.int .i64 t0, .int .i64 t1, .int .i64 t2, .int .i64 t3, .int .i64 t4, .slice A zs.length c] 37)).heap.size = W.heap.size + 1 by simp]
    have p0 := cell_of_row w3 _ 0 _ _ _ hbm3
    have p1 := cell_of_row w3 _ 1 _ _ _ hbm3
    have p2 := cell_of_row w3 _ 2 _ _ _ hbm3
    have p3 := cell_of_row w3 _ 3 _ _ _ hbm3
    have p4 := cell_of_row w3 _ 4 _ _ _ hbm3
    have p5 := cell_of_row w3 _ 5 _ _ _ hbm3
    have pf := fun j => frozen_of_row w3 _ j _ _ hbm3
    have HL3 := Lib.hid hL3; have Hbm3 := Lib.hid hbm3; have HW3 := Lib.hid hW3; have Hs3 := Lib.hid hs3; clear hL3 hbm3 hw3 hs3 hW3
    go_wp2_with fail
    go_cut [4] (fun v wx => ∃ O A1 c1, v = .pointer (some ⟨O, 0, none⟩) ∧ w3.heap.size ≤ O ∧ wx.heap[O]? = some (.cells #[.int .i64 t0, .int .i64 t1, .int .i64 t2, .int .i64 t3, .int .i64 t4, .slice A1 zs.length c1] 37 (0, 0)) ∧
        wx.ownsRow w3.heap.size 2 1 (.slice A1 zs.length c1) zs.length (nums .i64 zs) ∧ Below w3.heap.size w3 wx)
    case first =>
      go_region_with (first | (go_at_call 27; refine (Hr.out _ ?_).mono ?_; (focus (have hW3 := HW3.out; (focus (repeat' (first | (with_reducible exact Below.refl _ _) | (with_reducible assumption) | (with_reducible refine Below.setCell ?_ ?_ _) | (with_reducible refine Below.alloc ?_ ?_ _) | (with_reducible refine below_drewN ?_ _) | (with_reducible refine Below.drew ?_) | (with_reducible exact Nat.le_refl _) | omega | (simp; done) | (simp; omega)))); done)); rintro e w4 ⟨v4, rfl, hown4, hb4⟩; obtain ⟨A1, c1, rfl, hc1⟩ := own_form hown4; refine first_then (p := Below w3.heap.size w3 w4) ?_ ?_; (focus (refine Below.trans ?_ (hb4.mono (by simp)); (focus (repeat' (first | (with_reducible exact Below.refl _ _) | (with_reducible assumption) | (with_reducible refine Below.setCell ?_ ?_ _) | (with_reducible refine Below.alloc ?_ ?_ _) | (with_reducible refine below_drewN ?_ _) | (with_reducible refine Below.drew ?_) | (with_reducible exact Nat.le_refl _) | omega | (simp; done) | (simp; omega)))); done)); intro hB4; have hbm4 := (hB4.block _ hs3a).trans Hbm3.out; have hs4 : W.heap.size < w4.heap.size := lt_of_block hbm4; have r0 := cell_of_row w4 _ 0 _ _ _ hbm4; have r1 := cell_of_row w4 _ 1 _ _ _ hbm4; have r2 := cell_of_row w4 _ 2 _ _ _ hbm4; have r3 := cell_of_row w4 _ 3 _ _ _ hbm4; have r4 := cell_of_row w4 _ 4 _ _ _ hbm4; have r5 := cell_of_row w4 _ 5 _ _ _ hbm4; refine first_then (p := w4.heap[w3.heap.size]? = some (.cells #[.int .i64 0, .int .i64 0, .int .i64 0, .int .i64 0, .int .i64 0, .slice none 0 0] 37 (0, 0))) ?_ ?_; (focus (refine (hb4.block _ ?_).trans ?_; (focus (simp; done)); (first | exact heap_alloc_new w3 _ | exact heap_alloc_new (World.drew _) _); done)); intro hal; have z0 := cell_of_row w4 _ 0 _ _ _ hal; have z1 := cell_of_row w4 _ 1 _ _ _ hal; have z2 := cell_of_row w4 _ 2 _ _ _ hal; have z3 := cell_of_row w4 _ 3 _ _ _ hal; have z4 := cell_of_row w4 _ 4 _ _ _ hal; have z5 := cell_of_row w4 _ 5 _ _ _ hal; have zf := fun j => frozen_of_row w4 _ j _ _ hal; have hs5 : w3.heap.size < w4.heap.size := lt_of_block hal; have Hal := Lib.hid hal; clear hal; have HO4 := Lib.hid hown4; have HB4 := Lib.hid hb4; have HBB4 := Lib.hid hB4; clear hown4 hb4 hB4 hbm4) | (go_at_call 27; refine (Hr.out _ ?_).mono ?_; (focus (have hW3 := HW3.out; (focus (repeat' (first | (with_reducible exact Below.refl _ _) | (with_reducible assumption) | (with_reducible refine Below.setCell ?_ ?_ _) | (with_reducible refine Below.alloc ?_ ?_ _) | (with_reducible refine below_drewN ?_ _) | (with_reducible refine Below.drew ?_) | (with_reducible exact Nat.le_refl _) | omega | (simp; done) | (simp; omega)))); done)); rintro e w4 ⟨v4, rfl, hown4, hb4⟩; obtain ⟨A1, c1, rfl, hc1⟩ := own_form hown4; refine first_then (p := Below w3.heap.size w3 w4) ?_ ?_; (focus (refine Below.trans ?_ (hb4.mono (by simp)); (focus (repeat' (first | (with_reducible exact Below.refl _ _) | (with_reducible assumption) | (with_reducible refine Below.setCell ?_ ?_ _) | (with_reducible refine Below.alloc ?_ ?_ _) | (with_reducible refine below_drewN ?_ _) | (with_reducible refine Below.drew ?_) | (with_reducible exact Nat.le_refl _) | omega | (simp; done) | (simp; omega)))); done)); intro hB4; have hbm4 := (hB4.block _ hs3a).trans Hbm3.out; have hs4 : W.heap.size < w4.heap.size := lt_of_block hbm4; have r0 := cell_of_row w4 _ 0 _ _ _ hbm4; have r1 := cell_of_row w4 _ 1 _ _ _ hbm4; have r2 := cell_of_row w4 _ 2 _ _ _ hbm4; have r3 := cell_of_row w4 _ 3 _ _ _ hbm4; have r4 := cell_of_row w4 _ 4 _ _ _ hbm4; have r5 := cell_of_row w4 _ 5 _ _ _ hbm4; have HO4 := Lib.hid hown4; have HB4 := Lib.hid hb4; have HBB4 := Lib.hid hB4; clear hown4 hb4 hB4 hbm4))
      all_goals go_wp2_with fail
      all_goals go_meet
      all_goals
        have hO4 := HO4.out
        have hB4 := HBB4.out
        refine ⟨_, A1, c1, rfl, ?_, ?_, ?_, ?_⟩
      all_goals first
        | (have hal := Hal.out
           have hk6 := keeps_keep6 (w := w4) (b := w3.heap.size) (.int .i64 t0) (.int .i64 t1) (.int .i64 t2) (.int .i64 t3) (.int .i64 t4) (.slice A1 zs.length c1)
           first
           | exact Nat.le_refl _
           | with_reducible exact keeps_box6 hal (.int .i64 t0) (.int .i64 t1) (.int .i64 t2) (.int .i64 t3) (.int .i64 t4) (.slice A1 zs.length c1)
           | with_reducible exact own_base (hk6.own hO4 (fun k hk e => by have := (hO4.lt k hk).1; simp at this; omega)) (by simp)
           | with_reducible exact hB4.trans (hk6.toBelow hB4.size (fun i hi => by omega)))
        | exact hB4.size
        | with_reducible exact heap_alloc_new w4 _
        | with_reducible exact own_base (hO4.alloc _) (by simp)
        | with_reducible exact hB4.trans ((Below.refl _ _).alloc hB4.size _)
    case rest =>
      obtain ⟨O, A1, c1, rfl, hO, hbo, hown, hB⟩ := hcut
      have hbn : O ≠ W.heap.size := by omega
      have hsO : O < wc.heap.size := lt_of_block hbo
      have o0 := cell_of_row wc _ 0 _ _ _ hbo
      have o1 := cell_of_row wc _ 1 _ _ _ hbo
      have o2 := cell_of_row wc _ 2 _ _ _ hbo
      have o3 := cell_of_row wc _ 3 _ _ _ hbo
      have o4 := cell_of_row wc _ 4 _ _ _ hbo
      have o5 := cell_of_row wc _ 5 _ _ _ hbo
      have of := fun j => frozen_of_row wc _ j _ _ hbo
      have hW4 : Below W.heap.size W wc := HW3.out.trans (hB.mono (by omega))
      have hL4 := (HL3.out wc.heap.size).below hB
      have hrd := Rd.own hown
      have hsend := linkSend wc.heap.size (W.heap.size + 1) none (LSt.new 2) ⟨t0, t1, t2, t3, t4⟩ A1 zs c1 wc hL4 (by simp [LSt.new]) (by simp [LSt.new]) (Nat.le_refl _) hrd (by omega)
      have Hsend := Lib.hid hsend; have Hbo := Lib.hid hbo; have Hown := Lib.hid hown; have HB := Lib.hid hB; have HW4 := Lib.hid hW4; clear hsend hbo hown hB hW4 hL4 hrd
      clear p0 p1 p2 p3 p4 p5 pf
      go_wp2_with fail
      refine Hsend.out.mono ?_
      rintro e w5 ⟨rfl, g5, hl5, hk5, hg5⟩
      have hne : ∀ i, linkS (W.heap.size + 1) none i → i = W.heap.size + 1 := fun i hi => by rcases hi with h | h; exact h; cases h
      have hbo5 := (hk5.block O hsO (fun h => by have := hne _ h; have := Hs3.out; omega)).trans Hbo.out
      have hown5 := hk5.own Hown.out (fun k hk h => by have := hne _ h; have := (Hown.out.lt k hk).1; have := Hs3.out; omega)
      have hbm5 := (hk5.block W.heap.size (by omega) (fun h => by have := hne _ h; omega)).trans ((HB.out.block _ hs3a).trans Hbm3.out)
      have hW5 := HW4.out.trans (keep_new hk5 HW4.out.size (Nat.le_succ _) (fun i hi => by cases hi))
      have hR5 : KeepRel W w5 w3.heap.size wc.heap.size O g5 ⟨⟨t0, t1, t2, t3, t4⟩, zs⟩ A1 c1 (w5.heap[W.heap.size]? = some (.cells #[.int .i64 t0, .int .i64 t1, .int .i64 t2, .int .i64 t3, .int .i64 t4, .slice A zs.length c] 37 (0, 0))) :=
        ⟨zs, hown5, hl5, hbo5, hW5, fun k hk => (Hown.out.lt k hk).2, hsO, by omega, by have := Hs3.out; omega, hbm5⟩
      clear o0 o1 o2 o3 o4 o5 of
      have o0 := cell_of_row w5 _ 0 _ _ _ hbo5
      have o1 := cell_of_row w5 _ 1 _ _ _ hbo5
      have o2 := cell_of_row w5 _ 2 _ _ _ hbo5
      have o3 := cell_of_row w5 _ 3 _ _ _ hbo5
      have o4 := cell_of_row w5 _ 4 _ _ _ hbo5
      have o5 := cell_of_row w5 _ 5 _ _ _ hbo5
      have of := fun j => frozen_of_row w5 _ j _ _ hbo5
      have HR5 := Lib.hid hR5; clear hR5 hbo5 hown5 hbm5 hW5 hne hl5 hk5 hg5 Hsend Hbo Hown HB HW4 HL3 Hbm3 HW3 Hs3 Hr
      go_wp2_with fail
      go_loopw [31] (fun i wr => ∃ k : Nat, k ≤ zs.length ∧ i = .int .i64 k ∧ KeepRel W wr w3.heap.size wc.heap.size O g5 ⟨⟨t0, t1, t2, t3, t4⟩, zs⟩ A1 c1 (wr.heap[W.heap.size]? = some (.cells #[.int .i64 t0, .int .i64 t1, .int .i64 t2, .int .i64 t3, .int .i64 t4, .slice A zs.length c] 37 (0, 0)))) (fun i _ => zs.length - (intOf i).toNat)
      case atStart => exact ⟨0, Nat.zero_le _, rfl, HR5.out⟩
      case round =>
        obtain ⟨k, hk, rfl, hR⟩ := hrel
        by_cases hlt : k < zs.length
        · obtain ⟨xs, hown, hl, hbo, hW, hA1, hOb, hWO, hhb, hbm⟩ := hR
          obtain ⟨ga, ca, hv, hga, hgl⟩ := hown.form (by dsimp only; omega)
          simp only [Value.slice.injEq] at hv
          obtain ⟨rfl, _, rfl⟩ := hv
          have hx := keeps_cell hown hlt
          have hxf := hown.frozenAt k
          clear o0 o1 o2 o3 o4 o5 of
          have o0 := cell_of_row wr _ 0 _ _ _ hbo
          have o1 := cell_of_row wr _ 1 _ _ _ hbo
          have o2 := cell_of_row wr _ 2 _ _ _ hbo
          have o3 := cell_of_row wr _ 3 _ _ _ hbo
          have o4 := cell_of_row wr _ 4 _ _ _ hbo
          have o5 := cell_of_row wr _ 5 _ _ _ hbo
          have of := fun j => frozen_of_row wr _ j _ _ hbo
          have hrs : ∀ v, KeepRel W (wr.setCell ⟨ga, k, none⟩ (.int .i64 v)) w3.heap.size wc.heap.size O g5 ⟨⟨t0, t1, t2, t3, t4⟩, zs⟩ (some ⟨ga, 0, none⟩) c1 ((wr.setCell ⟨ga, k, none⟩ (.int .i64 v)).heap[W.heap.size]? = some (.cells #[.int .i64 t0, .int .i64 t1, .int .i64 t2, .int .i64 t3, .int .i64 t4, .slice A zs.length c] 37 (0, 0))) := fun v => by
            have hgb : ga < wc.heap.size := hA1 ga rfl
            obtain ⟨cs2, hty⟩ : ∃ cs2, wr.heap[ga]? = some (.cells cs2 2 (0, 0)) := by
              rcases hown.2 with ⟨h0, _⟩ | ⟨g2, cap, cur, hv2, _, hg2, _⟩
              · cases h0
              · injection hv2 with hv2; injection hv2 with hv2; injection hv2 with hv2; subst hv2; exact ⟨_, hg2⟩
            have hgO : O ≠ ga := blk_ne hbo hty (by decide)
            have hgm : W.heap.size ≠ ga := blk_ne hbm hty (by decide)
            have hK : Keep (fun i => i = ga) wr (wr.setCell ⟨ga, k, none⟩ (.int .i64 v)) := Keep.setCell (S := fun i => i = ga) (Keep.refl _ _) ⟨ga, k, none⟩ (.inr rfl) _
            obtain ⟨csb, hlb⟩ := hl.blk
            refine ⟨xs.set k v, keeps_row hown k v, hl.keep hK (blk_ne hlb hty (by decide)) (fun i hi => ?_) (fun i c hi hb => by omega), (hK.block O (lt_of_block hbo) hgO).trans hbo, hW.trans (hK.toBelow hW.size (fun i hi => by omega)), hA1, hOb, hWO, hhb, (hK.block _ (lt_of_block hbm) hgm).trans hbm⟩
            have := (hl.blocks.2 i hi).1; omega
          have Hrs := Lib.hid hrs; clear hrs hown hl hbo hW hA1 hbm
          go_wp2_with fail
          go_roundw
          case rel => exact ⟨k + 1, by omega, by go_num, Hrs.out _⟩
          case measure => simp [intOf]; omega
        · obtain ⟨xs, hown, hl, hbo, hW, hA1, hOb, hWO, hhb, hbm⟩ := hR
          have hmsgs : Calls Try.prog 28 #[.pointer (some ⟨W.heap.size + 1, 0, none⟩)] wr fun e w' => ∃ A6 c6, e = .returned (.slice A6 1 c6) ∧ MsgsOwn w' wr.heap.size (.slice A6 1 c6) [⟨⟨t0, t1, t2, t3, t4⟩, zs⟩] ∧ Below wr.heap.size wr w' := linkMsgs _ _ _ _ wr hl
          have Hmsgs := Lib.hid hmsgs; have Hl := Lib.hid hl; have HW := Lib.hid hW; have Hbm := Lib.hid hbm; clear hmsgs hown hl hbo hW hA1 hbm o0 o1 o2 o3 o4 o5 of
          go_wp2_with fail
          refine Hmsgs.out.mono ?_
          rintro e w6 ⟨A6, c6, rfl, hM6, hb6⟩
          have HM6 := Lib.hid hM6; have HB6 := Lib.hid hb6; clear hM6 hb6 Hmsgs
          go_wp2_with fail
          go_loopw [45] (fun i w7 => ∃ k : Nat, k ≤ 1 ∧ i = .int .i64 k ∧ Below wr.heap.size wr w7 ∧ (k = 0 → MsgsOwn w7 wr.heap.size (.slice A6 1 c6) [⟨⟨t0, t1, t2, t3, t4⟩, zs⟩])) (fun i _ => 1 - (intOf i).toNat)
          case atStart => exact ⟨0, by omega, rfl, HB6.out, fun _ => HM6.out⟩
          case round =>
            rename World => w7
            obtain ⟨k7, hk7, rfl, hB7, hM7⟩ := hrel
            by_cases hlt7 : k7 < 1
            · obtain rfl : k7 = 0 := by omega
              obtain ⟨rows, hro, hrl, hr6, hrm⟩ := hM7 rfl
              obtain ⟨A7, c7, hrow, hv7⟩ := hrm 0 (by simp)
              obtain ⟨g6, d6, hv6, hg6, hgl6⟩ := hro.form (by simp)
              simp only [Value.slice.injEq] at hv6
              obtain ⟨rfl, hx1, rfl⟩ := hv6
              clear hx1
              have hcell : ∀ t, t < 6 → w7.cell? ⟨g6, t, none⟩ = ((⟨t0, t1, t2, t3, t4⟩ : Tg).cells ++ [Value.slice A7 zs.length c7])[t]? := fun t ht => by
                rw [hro.cellAt t (by omega)]
                have := flatten_get hr6 0 t (by rw [hrl]; simp) ht
                rw [Nat.zero_mul, Nat.zero_add] at this
                rw [this, hrow]; rfl
              have q0 : w7.cell? ⟨g6, 0, none⟩ = some (.int .i64 t0) := hcell 0 (by omega)
              have q1 : w7.cell? ⟨g6, 1, none⟩ = some (.int .i64 t1) := hcell 1 (by omega)
              have q2 : w7.cell? ⟨g6, 2, none⟩ = some (.int .i64 t2) := hcell 2 (by omega)
              have q3 : w7.cell? ⟨g6, 3, none⟩ = some (.int .i64 t3) := hcell 3 (by omega)
              have q4 : w7.cell? ⟨g6, 4, none⟩ = some (.int .i64 t4) := hcell 4 (by omega)
              have q5 : w7.cell? ⟨g6, 5, none⟩ = some (.slice A7 zs.length c7) := hcell 5 (by omega)
              have HB7 := Lib.hid hB7; have Hv7 := Lib.hid hv7; clear hB7 hM7 hro hrl hr6 hrm hrow hv7 hcell hlt7 hk7
              go_wp2_with fail
              have hbx : ((w7.alloc (.cells #[.int .i64 t0, .int .i64 t1, .int .i64 t2, .int .i64 t3, .int .i64 t4, .slice A7 zs.length c7] 37))).heap[w7.heap.size]? = some (.cells #[.int .i64 t0, .int .i64 t1, .int .i64 t2, .int .i64 t3, .int .i64 t4, .slice A7 zs.length c7] 37 (0, 0)) := heap_alloc_new w7 _
              have Hbx := Lib.hid hbx; clear hbx
              go_loopw [52] (fun i w8 => ∃ j : Nat, j ≤ zs.length ∧ i = .int .i64 j ∧ ∃ ys : List Int, w8.ownsRow wr.heap.size 2 1 (.slice A7 zs.length c7) zs.length (nums .i64 ys) ∧ w8.heap[w7.heap.size]? = some (.cells #[.int .i64 t0, .int .i64 t1, .int .i64 t2, .int .i64 t3, .int .i64 t4, .slice A7 zs.length c7] 37 (0, 0)) ∧ Below wr.heap.size wr w8) (fun i _ => zs.length - (intOf i).toNat)
              case atStart => exact ⟨0, by omega, rfl, zs, Hv7.out.alloc _, Hbx.out, HB7.out.trans ((Below.refl _ _).alloc HB7.out.size _)⟩
              case round =>
                rename World => w8
                obtain ⟨j, hj, rfl, ys, hv8, hbx8, hB8⟩ := hrel
                clear q0 q1 q2 q3 q4 q5
                by_cases hltj : j < zs.length
                · obtain ⟨g7, d7, hv9, hg7, hgl7⟩ := hv8.form (by omega)
                  simp only [Value.slice.injEq] at hv9
                  obtain ⟨rfl, _, rfl⟩ := hv9
                  have hx := keeps_cell hv8 hltj
                  have hxf := hv8.frozenAt j
                  have o0 := cell_of_row w8 _ 0 _ _ _ hbx8
                  have o1 := cell_of_row w8 _ 1 _ _ _ hbx8
                  have o2 := cell_of_row w8 _ 2 _ _ _ hbx8
                  have o3 := cell_of_row w8 _ 3 _ _ _ hbx8
                  have o4 := cell_of_row w8 _ 4 _ _ _ hbx8
                  have o5 := cell_of_row w8 _ 5 _ _ _ hbx8
                  have of := fun j => frozen_of_row w8 _ j _ _ hbx8
                  have hrs : ∀ v, (w8.setCell ⟨g7, j, none⟩ (.int .i64 v)).ownsRow wr.heap.size 2 1 (.slice (some ⟨g7, 0, none⟩) zs.length c7) zs.length (nums .i64 (ys.set j v)) ∧ (w8.setCell ⟨g7, j, none⟩ (.int .i64 v)).heap[w7.heap.size]? = some (.cells #[.int .i64 t0, .int .i64 t1, .int .i64 t2, .int .i64 t3, .int .i64 t4, .slice (some ⟨g7, 0, none⟩) zs.length c7] 37 (0, 0)) ∧ Below wr.heap.size wr (w8.setCell ⟨g7, j, none⟩ (.int .i64 v)) := fun v => by
                    obtain ⟨cs2, hty⟩ : ∃ cs2, w8.heap[g7]? = some (.cells cs2 2 (0, 0)) := by
                      rcases hv8.2 with ⟨h0, _⟩ | ⟨g2, cap, cur, hv2, _, hg2, _⟩
                      · cases h0
                      · injection hv2 with hv2; injection hv2 with hv2; injection hv2 with hv2; subst hv2; exact ⟨_, hg2⟩
                    refine ⟨keeps_row hv8 j v, (Below.heap_setCell _ _ _ _ ?_).trans hbx8, hB8.setCell hg7 _⟩
                    exact blk_ne hbx8 hty (by decide)
                  have Hrs := Lib.hid hrs; clear hrs hv8 hbx8 hB8
                  go_wp2_with fail
                  go_roundw
                  case rel => exact ⟨j + 1, by omega, by go_num, _, (Hrs.out _).1, (Hrs.out _).2.1, (Hrs.out _).2.2⟩
                  case measure => simp [intOf]; omega
                · have HB8 := Lib.hid hB8; clear hB8 hv8 hbx8
                  go_wp2_with fail
                  go_roundw
                  case rel => exact ⟨1, by omega, rfl, HB8.out, fun h => by omega⟩
                  case measure => simp [intOf]
            · have hl7 := Hl.out.below hB7
              have hbm7 := (hB7.block _ (lt_of_block Hbm.out)).trans Hbm.out
              have hW7 := HW.out.trans (hB7.mono HW.out.size)
              have o0 := cell_of_row w7 _ 0 _ _ _ hbm7
              have o1 := cell_of_row w7 _ 1 _ _ _ hbm7
              have o2 := cell_of_row w7 _ 2 _ _ _ hbm7
              have o3 := cell_of_row w7 _ 3 _ _ _ hbm7
              have o4 := cell_of_row w7 _ 4 _ _ _ hbm7
              have o5 := cell_of_row w7 _ 5 _ _ _ hbm7
              have of := fun j => frozen_of_row w7 _ j _ _ hbm7
              have hrv : Calls Try.prog 21 #[.pointer (some ⟨W.heap.size + 1, 0, none⟩), .agg #[.int .i64 t0, .int .i64 t1, .int .i64 t2, .int .i64 t3, .int .i64 t4]] w7 fun e w' => ∃ A c, e = .returned (.tuple #[.agg #[.int .i64 t0, .int .i64 t1, .int .i64 t2, .int .i64 t3, .int .i64 t4, .slice A zs.length c], .int .i64 0]) ∧ Rd w' A (nums .i64 zs) ∧ Below W.heap.size W w' ∧ w'.heap[W.heap.size]? = w7.heap[W.heap.size]? := by
                refine (linkRecv_ok _ _ _ _ ⟨t0, t1, t2, t3, t4⟩ w7 hl7 (by simp [LSt.send, LSt.new]) rfl).mono ?_
                rintro e w' ⟨A9, c9, h1, h2, _, hk⟩
                exact ⟨A9, c9, h1, Rd.own h2, hW7.trans (hk.toBelow hW7.size (fun i hi => by omega)), hk.block _ (lt_of_block hbm7) (by omega)⟩
              have Hrv := Lib.hid hrv; have Hbm7 := Lib.hid hbm7; clear hrv hl7 hbm7 hW7 hB7 hM7
              go_wp2_with fail
              refine Hrv.out.mono ?_
              rintro e w9 ⟨A9, c9, rfl, hr9, hW9, hbm9⟩
              have Hr9 := Lib.hid hr9; have HW9 := Lib.hid hW9; have Hbm9 := Lib.hid (hbm9.trans Hbm7.out); clear hr9 hW9 hbm9 o0 o1 o2 o3 o4 o5 of
              go_wp2_with fail
              refine (alive18 _).mono ?_
              rintro e w10 ⟨rfl, hb10⟩
              have hB10 : Below w9.heap.size w9 w10 := Below.trans ((Below.refl _ _).alloc (Nat.le_refl _) _) (hb10.mono (by simp))
              have hbx10 := (hb10.block w9.heap.size (by simp)).trans (heap_alloc_new w9 _)
              have hbm10 := (hB10.block _ (lt_of_block Hbm9.out)).trans Hbm9.out
              have o0 := cell_of_row w10 _ 0 _ _ _ hbm10
              have o1 := cell_of_row w10 _ 1 _ _ _ hbm10
              have o2 := cell_of_row w10 _ 2 _ _ _ hbm10
              have o3 := cell_of_row w10 _ 3 _ _ _ hbm10
              have o4 := cell_of_row w10 _ 4 _ _ _ hbm10
              have o5 := cell_of_row w10 _ 5 _ _ _ hbm10
              have of := fun j => frozen_of_row w10 _ j _ _ hbm10
              have q0 := cell_of_row w10 _ 0 _ _ _ hbx10
              have q1 := cell_of_row w10 _ 1 _ _ _ hbx10
              have q2 := cell_of_row w10 _ 2 _ _ _ hbx10
              have q3 := cell_of_row w10 _ 3 _ _ _ hbx10
              have q4 := cell_of_row w10 _ 4 _ _ _ hbx10
              have q5 := cell_of_row w10 _ 5 _ _ _ hbx10
              have qf := fun j => frozen_of_row w10 _ j _ _ hbx10
              have hr10 := Hr9.out.below hB10
              have hW10 := HW9.out.trans (hB10.mono HW9.out.size)
              have hsm := refSame t0 t1 t2 t3 t4 A9 A zs c9 c w10 hr10 (HA.out.below hW10) (by omega)
              have Hsm := Lib.hid hsm; have HW10 := Lib.hid hW10; clear hsm hr10 hW10 hbx10 hbm10 hB10 hb10
              go_wp2_with fail
              refine Hsm.out.mono ?_
              rintro e w11 ⟨rfl, hb11⟩
              go_wp2_with fail
              go_ret
              exact ⟨rfl, HW10.out.trans (hb11.mono HW10.out.size)⟩

set_option maxRecDepth 100000 in
theorem LinkKeeps_walk {H : Type} {enc : TypeId × Value → H} {base : Nat} {v0 : Value} {d0 : DataW H} {p0 : List MemPlace} (W : World)
    (o0 : Value.okWide Try.prog W .any base 37 v0) (h0 : DataW.Trod enc Try.prog W 0 (fun _ => true) true 37 v0 d0 p0) (z0 : Light Try.prog 37 d0) :
    Calls Try.prog 6 #[v0] W fun e w' => e = .returned (.bool true) ∧ Below W.heap.size W w' := by
  obtain ⟨m0, m1, m2, m3, m4, A, zs, c, rfl, hz, hA⟩ := open_msg o0 h0 z0
  exact keeps_core m0 m1 m2 m3 m4 A zs c W hA (by omega)
end Go.Proofs.Ytpoeppehijhnnaa
