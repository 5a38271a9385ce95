/- Rows of a call's own, whatever they hold. The reference's Clone of the data: copies in rows of the call's own. No condition. -/
import Derived.Test.YtfiojofcafjfeaaGreatJ51
import Derived.WalkSpells
import Derived.Test.YtfiojofcafjfeaaGreatJ13
import Derived.Test.YtfiojofcafjfeaaGreatJ20
import Derived.Test.YtfiojofcafjfeaaGreatJ08
import Derived.Deep.RegionHeld3
set_option linter.unusedSimpArgs false
set_option linter.unusedVariables false
namespace Go.Proofs.YtfiojofcafjfeaaGreat
open Go.RowKit

/-- A row of the call's own, whatever it holds. -/
def ARow (e : TypeId) (sz : Nat) (w : World) (base : Nat) (v : Value) (n : Nat) : Prop := ∃ xs, w.ownsRow base e sz v n xs
theorem ARow.put {e : TypeId} {sz : Nat} {w : World} {base n g c : Nat} (h : ARow e sz w base (.slice (some ⟨g, 0, none⟩) n c) n) (k : Nat) (v : Value) : ARow e sz (w.setCell ⟨g, k, none⟩ v) base (.slice (some ⟨g, 0, none⟩) n c) n := by
  obtain ⟨xs, h⟩ := h
  exact ⟨_, (h.stored k v).1⟩
theorem ARow.cell {e : TypeId} {sz : Nat} {w : World} {base n g c : Nat} (h : ARow e sz w base (.slice (some ⟨g, 0, none⟩) n c) n) {k : Nat} (hk : k < n * sz) : ∃ x : Value, w.cell? ⟨g, k, none⟩ = some x ∧ w.frozen? ⟨g, k, none⟩ = false := by
  obtain ⟨xs, h⟩ := h
  have f := h.frozenAt k
  have hl := h.1
  exact ⟨xs[k]'(by omega), by rw [h.cellAt k (by omega)]; simp, f⟩
theorem ARow.form {e : TypeId} {sz : Nat} {w : World} {base n c : Nat} {A : Option Addr} (h : ARow e sz w base (.slice A n c) n) (hn : 0 < n) : ∃ g, A = some ⟨g, 0, none⟩ := by
  obtain ⟨xs, h⟩ := h
  obtain ⟨g, c', hv, _⟩ := h.form hn
  simp only [Value.slice.injEq] at hv
  exact ⟨g, hv.1⟩
theorem ARow.lt {e : TypeId} {sz : Nat} {w : World} {base n : Nat} {v : Value} (h : ARow e sz w base v n) : ∀ i, v.ownBlock = some i → base ≤ i ∧ i < w.heap.size := by
  obtain ⟨xs, h⟩ := h
  exact h.lt
theorem ARow.keep {e : TypeId} {sz : Nat} {w w' : World} {base n : Nat} {v : Value} (h : ARow e sz w base v n) {S : Nat → Prop} (k : Keep S w w') (hS : ∀ i, v.ownBlock = some i → ¬ S i) : ARow e sz w' base v n := by
  obtain ⟨xs, h⟩ := h
  exact ⟨xs, k.own h hS⟩
theorem ARow.below {e : TypeId} {sz : Nat} {w w' : World} {base n : Nat} {v : Value} (h : ARow e sz w base v n) (hb : Below w.heap.size w w') : ARow e sz w' base v n := by
  obtain ⟨xs, h⟩ := h
  exact ⟨xs, own_below h hb⟩
/-- A row of numbers, whatever the numbers. -/
def KRow (q : IntKind) (e : TypeId) (w : World) (base : Nat) (v : Value) (n : Nat) : Prop := ∃ xs : List Int, w.ownsRow base e 1 v n (nums q xs)
theorem KRow.any {q : IntKind} {e : TypeId} {w : World} {base n : Nat} {v : Value} (h : KRow q e w base v n) : ARow e 1 w base v n := by
  obtain ⟨xs, h⟩ := h; exact ⟨_, h⟩
theorem KRow.put {q : IntKind} {e : TypeId} {w : World} {base n g c : Nat} (h : KRow q e w base (.slice (some ⟨g, 0, none⟩) n c) n) (k : Nat) (v : Int) : KRow q e (w.setCell ⟨g, k, none⟩ (.int q v)) base (.slice (some ⟨g, 0, none⟩) n c) n := by
  obtain ⟨xs, h⟩ := h
  have := (h.stored k (.int q v)).1
  rw [nums_set] at this
  exact ⟨_, this⟩
theorem KRow.cell {q : IntKind} {e : TypeId} {w : World} {base n g c : Nat} (h : KRow q e w base (.slice (some ⟨g, 0, none⟩) n c) n) {k : Nat} (hk : k < n) : ∃ x : Int, w.cell? ⟨g, k, none⟩ = some (.int q x) ∧ w.frozen? ⟨g, k, none⟩ = false := by
  obtain ⟨xs, h⟩ := h
  have f := h.frozenAt k
  have hl := h.1
  rw [nums_length, Nat.mul_one] at hl
  exact ⟨nth xs k, by rw [h.cellAt k (by omega)]; exact nums_get q xs k (by omega), f⟩
theorem KRow.keep {q : IntKind} {e : TypeId} {w w' : World} {base n : Nat} {v : Value} (h : KRow q e w base v n) {S : Nat → Prop} (k : Keep S w w') (hS : ∀ i, v.ownBlock = some i → ¬ S i) : KRow q e w' base v n := by
  obtain ⟨xs, h⟩ := h
  exact ⟨xs, k.own h hS⟩
theorem KRow.below {q : IntKind} {e : TypeId} {w w' : World} {base n : Nat} {v : Value} (h : KRow q e w base v n) (hb : Below w.heap.size w w') : KRow q e w' base v n := by
  obtain ⟨xs, h⟩ := h
  exact ⟨xs, own_below h hb⟩
end Go.Proofs.YtfiojofcafjfeaaGreat
namespace Go.Proofs.YtfiojofcafjfeaaGreat
open Go.RowKit

set_option maxRecDepth 100000 in
set_option maxHeartbeats 1000000 in
theorem rclonex_any (A : Option Addr) (l : List Ex) (c : Nat) (w : World) (h : SlRd rEx 2 w A l) (hl : l.length ≤ 1048576) :
    Calls Tryz.prog 23 #[.slice A l.length c] w fun e w' => ∃ v, e = .returned v ∧ MapI w w' l l.length v := by
  obtain ⟨n, hn⟩ : ∃ n, l.length = n := ⟨_, rfl⟩
  rw [hn] at hl ⊢
  have H := Lib.hid h; have Hn := Lib.hid hn; clear h hn
  go_enter Tryz.func23, Tryz.ntmps23
  go_wp2_with fail
  go_loopw [3, 4] (fun v i wr => ∃ k : Nat, k ≤ n ∧ i = .int .i64 k ∧ MapI w wr l k v) (fun _ i _ => n - (intOf i).toNat)
  case atStart => exact ⟨0, Nat.zero_le _, rfl, MapI.zero w l⟩
  case round =>
    obtain ⟨k, hk, rfl, hM⟩ := hrel
    obtain ⟨Al, cl, rfl⟩ := hM.form
    by_cases hlt : k < n
    · obtain ⟨x, hx⟩ : ∃ x, l[k]? = some x := ⟨_, List.getElem?_eq_getElem (by rw [Hn.out]; exact hlt)⟩
      have hlti : (k : Int) < n := by omega
      have hb := hM.b
      obtain ⟨b, o, A1, c1, A2, c2, rfl, hbl, p1, p2, r1, r2⟩ := ex_cells (H.out.below stays_ex hb) hx
      have hbw : b < w.heap.size := by
        obtain ⟨b', o', _, _, _, _, e9, h9, _⟩ := ex_cells H.out hx
        injection e9 with e9; injection e9 with e9 _ _; rw [e9]; exact h9
      have hx1 := r1.hl; have hx2 := r2.hl
      have hc1 := fun w' (q : Below wr.heap.size wr w') => rclone_any A1 x.1 c1 w' (r1.hr.below q) hx1
      have hc2 := fun w' (q : Below wr.heap.size wr w') => rclone_any A2 x.2 c2 w' (r2.hr.below q) hx2
      have hbs := hb.size
      obtain ⟨n1, hn1⟩ : ∃ n1, x.1.length = n1 := ⟨_, rfl⟩
      obtain ⟨n2, hn2⟩ : ∃ n2, x.2.length = n2 := ⟨_, rfl⟩
      rw [hn1] at p1 hc1; rw [hn2] at p2 hc2
      have Hc1 := Lib.hid hc1; have Hc2 := Lib.hid hc2; have HM := Lib.hid hM; have Hx := Lib.hid hx; have R1 := Lib.hid r1; have R2 := Lib.hid r2; have N1 := Lib.hid hn1; have N2 := Lib.hid hn2
      clear hc1 hc2 hM hx r1 r2 hn1 hn2 hb hx1 hx2
      go_wp2_with fail
      have hSw : (fun w' : World => w'.cell? ⟨b, o + k * 2, none⟩ = some (.slice A1 n1 c1) ∧ w'.cell? ⟨b, o + k * 2 + 1, none⟩ = some (.slice A2 n2 c2)) wr.drew := ⟨p1, p2⟩
      refine wp_region_held (S := (fun w' : World => w'.cell? ⟨b, o + k * 2, none⟩ = some (.slice A1 n1 c1) ∧ w'.cell? ⟨b, o + k * 2 + 1, none⟩ = some (.slice A2 n2 c2))) (by kernel_rfl) ?_
      change wpAnyH _ _ _ _ _ _ _ _ wr.drew
      refine wpAnyH_take (i := 0) (v := ?_) rfl (by kernel_rfl) (by kernel_rfl) (by kernel_rfl) (fun _ _ _ h => h) (Or.inl ⟨by rfl, ?_⟩) hSw ?_
      rotate_left
      · intro w9 hS9; (try dsimp only at hS9); obtain ⟨s1, s2⟩ := hS9; go_simp; (try with_reducible rfl)
      simp only [List.getElem_toArray, List.getElem_cons_succ, List.getElem_cons_zero, Act.put, List.setIfInBounds_toArray, List.set_cons_zero, List.set_cons_succ]
      refine wpAnyH_take (i := 1) (v := ?_) rfl (by kernel_rfl) (by kernel_rfl) (by kernel_rfl) (fun _ _ _ h => h) (Or.inl ⟨by rfl, ?_⟩) hSw ?_
      rotate_left
      · intro w9 hS9; (try dsimp only at hS9); obtain ⟨s1, s2⟩ := hS9; go_simp; (try with_reducible rfl)
      simp only [List.getElem_toArray, List.getElem_cons_succ, List.getElem_cons_zero, Act.put, List.setIfInBounds_toArray, List.set_cons_zero, List.set_cons_succ]
      refine wpAnyH_take (i := 2) (v := ?_) rfl (by kernel_rfl) (by kernel_rfl) (by kernel_rfl) (fun _ _ _ h => h) (Or.inl ⟨by rfl, ?_⟩) hSw ?_
      rotate_left
      · intro w9 hS9; (try dsimp only at hS9); obtain ⟨s1, s2⟩ := hS9; go_simp; (try with_reducible rfl)
      simp only [List.getElem_toArray, List.getElem_cons_succ, List.getElem_cons_zero, Act.put, List.setIfInBounds_toArray, List.set_cons_zero, List.set_cons_succ]
      refine wpAnyH_take (i := 3) (v := ?_) rfl (by kernel_rfl) (by kernel_rfl) (by kernel_rfl) (fun _ _ _ h => h) (Or.inl ⟨by rfl, ?_⟩) hSw ?_
      rotate_left
      · intro w9 hS9; (try dsimp only at hS9); obtain ⟨s1, s2⟩ := hS9; go_simp; (try with_reducible rfl)
      simp only [List.getElem_toArray, List.getElem_cons_succ, List.getElem_cons_zero, Act.put, List.setIfInBounds_toArray, List.set_cons_zero, List.set_cons_succ]
      refine wpAnyH_take (i := 4) (v := ?_) rfl (by kernel_rfl) (by kernel_rfl) (by kernel_rfl) (fun _ _ _ h => h) (Or.inl ⟨by rfl, ?_⟩) hSw ?_
      rotate_left
      · intro w9 hS9; (try dsimp only at hS9); obtain ⟨s1, s2⟩ := hS9; go_simp; (try with_reducible rfl)
      simp only [List.getElem_toArray, List.getElem_cons_succ, List.getElem_cons_zero, Act.put, List.setIfInBounds_toArray, List.set_cons_zero, List.set_cons_succ]
      refine wpAnyH_take (i := 5) (v := ?_) rfl (by kernel_rfl) (by kernel_rfl) (by kernel_rfl) (fun _ _ _ h => h) (Or.inl ⟨by rfl, ?_⟩) hSw ?_
      rotate_left
      · intro w9 hS9; (try dsimp only at hS9); obtain ⟨s1, s2⟩ := hS9; go_simp; (try with_reducible rfl)
      simp only [List.getElem_toArray, List.getElem_cons_succ, List.getElem_cons_zero, Act.put, List.setIfInBounds_toArray, List.set_cons_zero, List.set_cons_succ]
      refine wpAnyH_take (i := 7) (v := ?_) rfl (by kernel_rfl) (by kernel_rfl) (by kernel_rfl) (fun _ _ _ h => h) (Or.inl ⟨by rfl, ?_⟩) hSw ?_
      rotate_left
      · intro w9 hS9; (try dsimp only at hS9); obtain ⟨s1, s2⟩ := hS9; go_simp; (try with_reducible rfl)
      simp only [List.getElem_toArray, List.getElem_cons_succ, List.getElem_cons_zero, Act.put, List.setIfInBounds_toArray, List.set_cons_zero, List.set_cons_succ]
      refine wpAnyH_take (i := 8) (v := ?_) rfl (by kernel_rfl) (by kernel_rfl) (by kernel_rfl) (fun _ _ _ h => h) (Or.inl ⟨by rfl, ?_⟩) hSw ?_
      rotate_left
      · intro w9 hS9; (try dsimp only at hS9); obtain ⟨s1, s2⟩ := hS9; go_simp; (try with_reducible rfl)
      simp only [List.getElem_toArray, List.getElem_cons_succ, List.getElem_cons_zero, Act.put, List.setIfInBounds_toArray, List.set_cons_zero, List.set_cons_succ]
      refine wpAnyH_take (i := 9) (v := ?_) rfl (by kernel_rfl) (by kernel_rfl) (by kernel_rfl) (fun _ _ _ h => h) (Or.inl ⟨by rfl, ?_⟩) hSw ?_
      rotate_left
      · intro w9 hS9; (try dsimp only at hS9); obtain ⟨s1, s2⟩ := hS9; go_simp; (try with_reducible rfl)
      simp only [List.getElem_toArray, List.getElem_cons_succ, List.getElem_cons_zero, Act.put, List.setIfInBounds_toArray, List.set_cons_zero, List.set_cons_succ]
      refine wpAnyH_take (i := 10) (v := ?_) rfl (by kernel_rfl) (by kernel_rfl) (by kernel_rfl) (fun _ _ _ h => h) (Or.inl ⟨by rfl, ?_⟩) hSw ?_
      rotate_left
      · intro w9 hS9; (try dsimp only at hS9); obtain ⟨s1, s2⟩ := hS9; go_simp; (try with_reducible rfl)
      simp only [List.getElem_toArray, List.getElem_cons_succ, List.getElem_cons_zero, Act.put, List.setIfInBounds_toArray, List.set_cons_zero, List.set_cons_succ]
      refine wpAnyH_take (i := 11) (v := ?_) rfl (by kernel_rfl) (by kernel_rfl) (by kernel_rfl) (fun _ _ _ h => h) (Or.inl ⟨by rfl, ?_⟩) hSw ?_
      rotate_left
      · intro w9 hS9; (try dsimp only at hS9); obtain ⟨s1, s2⟩ := hS9; go_simp; (try with_reducible rfl)
      simp only [List.getElem_toArray, List.getElem_cons_succ, List.getElem_cons_zero, Act.put, List.setIfInBounds_toArray, List.set_cons_zero, List.set_cons_succ]
      refine wpAnyH_ready (rs := [6]) (by kernel_rfl) (by simp) ?_
      refine AllReadyH.cons rfl (fun K hK => ?_) AllReadyH.nil
      simp only [List.getElem_toArray, List.getElem_cons_succ, List.getElem_cons_zero]
      go_simp
      refine (Hc1.out _ ((Below.refl _ _).drew)).mono ?_
      rintro e w1 ⟨B1, d1, rfl, ho1, hb1⟩
      have hS1 := And.intro (cell_below hb1 hSw.1) (cell_below hb1 hSw.2)
      have hb1' : Below wr.heap.size wr w1 := (Below.refl _ wr).drew.trans hb1
      have ho1 := own_base (base' := w.heap.size) ho1 hbs
      have HO1 := Lib.hid ho1; have HB1 := Lib.hid hb1'
      clear ho1 hb1 hb1' hSw
      dsimp only
      refine hK.out _ _ hS1 (fun hSw => ?_)
      clear hK K hS1
      refine wpAnyH_ready (rs := [12]) (by kernel_rfl) (by simp) ?_
      refine AllReadyH.cons rfl (fun K hK => ?_) AllReadyH.nil
      simp only [List.getElem_toArray, List.getElem_cons_succ, List.getElem_cons_zero]
      go_simp
      refine (Hc2.out _ HB1.out).mono ?_
      rintro e w3 ⟨B2, d2, rfl, ho2, hb2⟩
      have hS3 := And.intro (cell_below hb2 hSw.1) (cell_below hb2 hSw.2)
      have hb3' : Below wr.heap.size wr w3 := HB1.out.trans (hb2.mono HB1.out.size)
      have ho13 := own_below HO1.out hb2
      have ho23 := own_base (base' := w.heap.size) ho2 (Nat.le_trans hbs HB1.out.size)
      have hx3 : ExOwn w3 w.heap.size [.slice B1 n1 d1, .slice B2 n2 d2] x := ⟨_, _, rfl, by rw [N1.out]; exact ho13, by rw [N2.out]; exact ho23, R1.out.hl, R2.out.hl, R1.out.hw, R2.out.hw⟩
      have HX3 := Lib.hid hx3; have HB3 := Lib.hid hb3'; have HM3 := Lib.hid (HM.out.below hb3')
      have hz3 := Nat.le_trans hbs hb3'.size
      clear ho1 ho2 hb2 hb3' ho13 ho23 hx3 hSw
      dsimp only
      refine hK.out _ _ hS3 (fun hSw => ?_)
      clear hK K hS3
      refine wpAnyH_take (i := 13) (v := ?_) rfl (by kernel_rfl) (by kernel_rfl) (by kernel_rfl) (fun _ _ _ h => h) (Or.inl ⟨by rfl, ?_⟩) hSw ?_
      rotate_left
      · intro w9 hS9; (try dsimp only at hS9); obtain ⟨s1, s2⟩ := hS9; go_simp; (try with_reducible rfl)
      simp only [List.getElem_toArray, List.getElem_cons_succ, List.getElem_cons_zero, Act.put, List.setIfInBounds_toArray, List.set_cons_zero, List.set_cons_succ]
      refine wpAnyH_ready (rs := [14]) (by kernel_rfl) (by simp) ?_
      refine AllReadyH.cons rfl (fun K hK => ?_) AllReadyH.nil
      simp only [List.getElem_toArray, List.getElem_cons_succ, List.getElem_cons_zero]
      go_simp
      refine hK.out _ _ ⟨cell_alloc hSw.1 _, cell_alloc hSw.2 _⟩ (fun hSw => ?_)
      clear hK K
      refine wpAnyH_ready (rs := [15]) (by kernel_rfl) (by simp) ?_
      refine AllReadyH.cons rfl (fun K hK => ?_) AllReadyH.nil
      simp only [List.getElem_toArray, List.getElem_cons_succ, List.getElem_cons_zero]
      obtain ⟨rows, h1, h2, h3, h4, h5⟩ := HM3.out
      have Q1 := Lib.hid h1; have Q2 := Lib.hid h2; have Q3 := Lib.hid h3; have Q4 := Lib.hid h4; have Q5 := Lib.hid h5; clear h1 h2 h3 h4 h5
      refine step_appX et_exs (.tmp 11) (.tmp 25) rfl rfl w.heap.size (.slice Al k cl) k (List.flatten rows) rfl (Q1.out.alloc _) (some ⟨w3.heap.size, 0, none⟩) 1 1 [.slice B1 n1 d1, .slice B2 n2 d2] rfl (rd_newN w3 _ _ _ rfl) rfl (by simp [Value.oneCell']) (by omega) (by unfold maxLen; omega) (by simp; omega) ?_
      intro A6 c6 w6 ho6 hb6 hg6 _
      have hS6 := And.intro ((hb6.cell (p := ⟨b, o + k * 2, none⟩) hbw).trans hSw.1) ((hb6.cell (p := ⟨b, o + k * 2 + 1, none⟩) hbw).trans hSw.2)
      have hM6 := MapI.push (Q1.out.alloc _) Q2.out Q3.out (fun j y hj hy => (Q4.out j y hj hy).below ((Below.refl _ _).alloc (Nat.le_refl _) _)) (Q5.out.alloc hz3 _) Hx.out (HX3.out.below ((Below.refl _ _).alloc (Nat.le_refl _) _)) ho6 hb6 hg6
      have HM6 := Lib.hid hM6
      clear ho6 hb6 hg6 hM6 hSw
      dsimp only
      refine hK.out _ _ hS6 (fun hSw => ?_)
      clear hK K hS6
      refine wpAnyH_take (i := 16) (v := ?_) rfl (by kernel_rfl) (by kernel_rfl) (by kernel_rfl) (fun _ _ _ h => h) (Or.inl ⟨by rfl, ?_⟩) hSw ?_
      rotate_left
      · intro w9 hS9; (try dsimp only at hS9); obtain ⟨s1, s2⟩ := hS9; go_simp; (try with_reducible rfl)
      simp only [List.getElem_toArray, List.getElem_cons_succ, List.getElem_cons_zero, Act.put, List.setIfInBounds_toArray, List.set_cons_zero, List.set_cons_succ]
      refine wpAnyH_done (by kernel_rfl) ?_ _
      clear hSw p1 p2
      go_wp2_with fail
      go_roundw
      case rel => exact ⟨k + 1, hlt, by go_num, HM6.out⟩
      case measure => simp [intOf]; omega
    · obtain rfl : n = k := by omega
      have HM := Lib.hid hM; clear hM
      go_wp2_with fail
      go_ret
      exact ⟨_, rfl, HM.out⟩
end Go.Proofs.YtfiojofcafjfeaaGreat
