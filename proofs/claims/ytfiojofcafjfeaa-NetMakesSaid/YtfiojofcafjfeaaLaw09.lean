/- What the laws of package sakialaw09 share. -/
import Derived.Test.YtfiojofcafjfeaaNetG
import Derived.Test.YtfiojofcafjfeaaNetN
import Derived.Test.YtfiojofcafjfeaaRefLo
import Derived.Test.YtfiojofcafjfeaaRef03
set_option linter.unusedSimpArgs false
set_option linter.unusedVariables false
namespace Go.Proofs.Ytfiojofcafjfeaa
open Go.RowKit

/-- What shape.New answers. -/
def SnewIs (sz : List Int) (w : World) (e : Ending) (w' : World) : Prop := Below w.heap.size w w' ∧ ((GoodSz sz ∧ ∃ b, e = .returned (.tuple #[.pointer (some ⟨b, 0, none⟩), .int .i64 0]) ∧ ShapeAt 91 w' b sz ∧ w.heap.size ≤ b) ∨ (¬ GoodSz sz ∧ ∃ c : Int, e = .returned (.tuple #[.pointer none, .int .i64 c])))
theorem snew_any (A : Option Addr) (sz : List Int) (c : Nat) (w : World) (hA : Rd w A (nums .i64 sz)) (hc : sz.length ≤ c) (hm : c ≤ 9223372036854775807) :
    Calls Try.prog 26 #[.slice A sz.length c] w (SnewIs sz w) := by
  by_cases h1 : 2 ≤ sz.length ∧ sz.length ≤ 16
  · by_cases h2 : ∀ k, k < sz.length → 1 ≤ nth sz k ∧ nth sz k ≤ 1048576
    · refine (snew_right A sz c w hA hc hm ⟨h1, h2⟩).mono fun e w' ⟨hb, h⟩ => ⟨hb, ?_⟩
      rcases h with ⟨h, he⟩ | ⟨h, b, he, hs, hz⟩
      · exact .inr ⟨fun hg => by have := hg.2; omega, 4, he⟩
      · exact .inl ⟨⟨⟨h1, h2⟩, h⟩, b, he, hs, hz⟩
    · refine (snew_wrong A sz c w hA hc hm h1 h2).mono fun e w' ⟨he, hw⟩ => ?_
      subst hw
      exact ⟨Below.refl _ _, .inr ⟨fun hg => h2 hg.1.2, 5, he⟩⟩
  · refine (snew_short A sz c w hc hm h1).mono fun e w' ⟨he, hw⟩ => ?_
    subst hw
    exact ⟨Below.refl _ _, .inr ⟨fun hg => h1 hg.1.1, 5, he⟩⟩

/-- What New answers. -/
def LnewIs (sz ps : List Int) (q : Int) (w : World) (e : Ending) (w' : World) : Prop := Below w.heap.size w w' ∧ ((RightN sz ps q ∧ ∃ b, e = .returned (.tuple #[.pointer (some ⟨b, 0, none⟩), .bool true]) ∧ NetAt 91 60 w' b sz ps q ∧ NetP w' w.heap.size b ps) ∨ (¬ RightN sz ps q ∧ e = .returned (.tuple #[.pointer none, .bool false])))
theorem nnew_any (S : Nat) (sz ps : List Int) (A : Option Addr) (c : Nat) (q : Int) (w : World) (hS : ShapeAt 91 w S sz) (hg : GoodSz sz) (hA : Rd w A (nums .i64 ps)) :
    Calls Try.prog 27 #[.pointer (some ⟨S, 0, none⟩), .slice A ps.length c, .int .i64 q] w (LnewIs sz ps q w) := by
  by_cases hq : 0 ≤ q ∧ q ≤ 62
  · by_cases hl : ps.length = cntN sz (sz.length - 1)
    · refine (net_new S sz ps A c q w hS hg hq hl hA).mono fun e w' ⟨b, he, hn, hz, hb⟩ => ⟨hb, .inl ⟨⟨hg, hq.1, hq.2, hl⟩, b, he, hn, hz⟩⟩
    · refine (net_no_len S sz ps A c q w hS hl).mono fun e w' ⟨he, hw⟩ => ?_
      subst hw
      exact ⟨Below.refl _ _, .inr ⟨fun h => hl h.2.2.2, he⟩⟩
  · refine (net_no_shift S _ q w hq).mono fun e w' ⟨he, hw⟩ => ?_
    subst hw
    exact ⟨Below.refl _ _, .inr ⟨fun h => hq ⟨h.2.1, h.2.2.1⟩, he⟩⟩
theorem lnew_any (As Ap : Option Addr) (sz ps : List Int) (cs cp : Nat) (q : Int) (w : World) (hA : Rd w As (nums .i64 sz)) (hP : Rd w Ap (nums .i64 ps)) (hc : sz.length ≤ cs) (hm : cs ≤ 9223372036854775807) :
    Calls Try.prog 12 #[.agg #[.slice As sz.length cs, .slice Ap ps.length cp, .int .i64 q]] w (LnewIs sz ps q w) := by
  have hsn := fun w' (k : Below w.heap.size w w') => snew_any As sz cs w' (hA.below k) hc hm
  have hnn := fun S w' (k : Below w.heap.size w w') (hS : ShapeAt 91 w' S sz) (hg : GoodSz sz) => nnew_any S sz ps Ap cp q w' hS hg (hP.below k)
  obtain ⟨n, hn⟩ : ∃ n, sz.length = n := ⟨_, rfl⟩
  obtain ⟨m, hm'⟩ : ∃ m, ps.length = m := ⟨_, rfl⟩
  rw [hn] at hsn ⊢
  rw [hm'] at hnn ⊢
  have Hsn := Lib.hid hsn; have Hnn := Lib.hid hnn
  clear hsn hnn hA hP hc hm hn hm'
  go_enter Try.func12, Try.ntmps12
  go_wp2_with fail
  refine (Hsn.out _ ?_).mono ?_
  · (focus (repeat' (first | (with_reducible exact Below.refl _ _) | (with_reducible assumption) | (with_reducible refine Below.setCell ?_ ?_ _) | (with_reducible refine Below.alloc ?_ ?_ _) | (with_reducible refine below_drewN ?_ _) | (with_reducible refine Below.drew ?_) | (with_reducible exact Nat.le_refl _) | omega | (simp; done) | (simp; omega))))
  rintro e w1 ⟨hb1, h⟩
  have hbx1 := (hb1.block w.heap.size (by simp)).trans (heap_alloc_new w (.cells #[.slice As n cs, .slice Ap m cp, .int .i64 q] 25))
  have hB1 : Below w.heap.size w w1 := ((Below.refl _ w).alloc (Nat.le_refl _) _).trans (hb1.mono (by simp))
  have y0 := cell_of_row w1 _ 0 _ _ _ hbx1
  have y1 := cell_of_row w1 _ 1 _ _ _ hbx1
  have y2 := cell_of_row w1 _ 2 _ _ _ hbx1
  have yf := fun j => frozen_of_row w1 _ j _ _ hbx1
  have HB1 := Lib.hid hB1; clear hb1 hbx1 hB1
  rcases h with ⟨hg, S, rfl, hS, hz⟩ | ⟨hg, c, rfl⟩
  · have hnn := Hnn.out S w1 HB1.out hS hg
    have Hn2 := Lib.hid hnn; clear hnn hS hg hz
    go_wp2_with fail
    refine Hn2.out.mono ?_
    rintro e w2 ⟨hb2, h⟩
    have hz1 := HB1.out.size
    have hB2 := HB1.out.trans (hb2.mono hz1)
    have HB2 := Lib.hid hB2; clear hb2 hB2 y0 y1 y2 yf
    rcases h with ⟨hr, b, rfl, hN, hz⟩ | ⟨hr, rfl⟩
    · have Hr := Lib.hid hr; have HN := Lib.hid hN; have Hz := Lib.hid (hz.base hz1); clear hr hN hz
      go_wp2_with fail
      go_ret2
      exact ⟨HB2.out, .inl ⟨Hr.out, b, rfl, HN.out, Hz.out⟩⟩
    · have Hr := Lib.hid hr; clear hr
      go_wp2_with fail
      go_ret2
      exact ⟨HB2.out, .inr ⟨Hr.out, rfl⟩⟩
  · have Hg := Lib.hid hg; clear hg
    go_wp2_with fail
    refine (net_no_shape _ _ _).mono ?_
    rintro e w2 ⟨rfl, rfl⟩
    clear y0 y1 y2 yf
    go_wp2_with fail
    go_ret2
    exact ⟨HB1.out, .inr ⟨fun h => Hg.out h.1, rfl⟩⟩

theorem rd_new (w : World) (xs : List Value) (e : TypeId) : Rd (w.alloc (.cells xs.toArray e)) (some ⟨w.heap.size, 0, none⟩) xs := rd_newN w xs e _ rfl

theorem alive_right : RightN [1, 1] [3, 1] 0 := ⟨⟨⟨by decide, fun k hk => by
  have : k = 0 ∨ k = 1 := by simp at hk; omega
  rcases this with rfl | rfl <;> decide⟩, by decide⟩, by decide, by decide, by decide⟩
theorem alive_grad : gradL [1, 1] [3, 1] 0 [2] [5] = [4, 2] := by decide +kernel

theorem alive09 (w : World) : Calls Try.prog 11 #[] w fun e w' => e = .returned (.bool true) ∧ Below w.heap.size w w' := by
  have hn := fun W A B (hA : Rd W A (nums .i64 [1, 1])) (hB : Rd W B (nums .i64 [3, 1])) => lnew_any A B [1, 1] [3, 1] 2 2 0 W hA hB (by decide) (by decide)
  have hg := fun W b A B (hN : NetAt 91 60 W b [1, 1] [3, 1] 0) (hA : Rd W A (nums .i64 [2])) (hB : Rd W B (nums .i64 [5])) => grad_ok b [1, 1] [3, 1] 0 A B [2] [5] 1 1 W hN alive_right.1 (fun k hk => by
    have : k = 0 ∨ k = 1 := by simp at hk; omega
    rcases this with rfl | rfl <;> decide) hA (by decide) (fun k hk => by
    have : k = 0 := by simp at hk; omega
    subst this; decide) hB (by decide)
  rw [alive_grad, show cntN [1, 1] ([(1 : Int), 1].length - 1) = 2 by decide] at hg
  simp only [List.length_cons, List.length_nil, Nat.reduceAdd] at hn hg
  have Hn := Lib.hid hn; have Hg := Lib.hid hg
  clear hn hg
  go_enter Try.func11, Try.ntmps11
  go_wp2_with fail
  refine (Hn.out _ _ _ ?_ ?_).mono ?_
  · exact (rd_new w [.int .i64 1, .int .i64 1] 3).alloc _
  · exact rd_newN _ [.int .i64 3, .int .i64 1] 2 _ (by simp)
  rintro e w1 ⟨hb1, h⟩
  rcases h with ⟨hr, b, rfl, hN, hz⟩ | ⟨hr, _⟩
  · have hB1 : Below w.heap.size w w1 := (((Below.refl _ w).alloc (Nat.le_refl _) _).alloc (by simp) _).trans (hb1.mono (by simp; omega))
    have HN := Lib.hid hN; have HB1 := Lib.hid hB1; clear hr hN hz hb1 hB1
    go_wp2_with fail
    refine (Hg.out _ b _ _ ?_ ?_ ?_).mono ?_
    · exact (HN.out.below ((Below.refl _ w1).alloc (Nat.le_refl _) _)).below ((Below.refl _ _).alloc (Nat.le_refl _) _)
    · exact (rd_new w1 [.int .i64 2] 2).alloc _
    · exact rd_newN _ [.int .i64 5] 2 _ (by simp)
    rintro e w2 ⟨A, c, rfl, ho, hb2⟩
    have hB2 : Below w.heap.size w w2 := HB1.out.trans (((((Below.refl _ w1).alloc (Nat.le_refl _) _).alloc (by simp) _).trans (hb2.mono (by simp; omega))).mono HB1.out.size)
    obtain ⟨g, c', hv, _, _⟩ := ho.form (by omega)
    simp only [Value.slice.injEq] at hv
    obtain ⟨rfl, _, rfl⟩ := hv
    have p0 := own_num ho (show 0 < 2 by omega)
    have p1 := own_num ho (show 1 < 2 by omega)
    rw [show nth [4, 2] 0 = 4 by decide] at p0
    rw [show nth [4, 2] 1 = 2 by decide] at p1
    have HB2 := Lib.hid hB2; clear hb2 ho hB2
    go_wp2
    go_ret
    exact ⟨rfl, HB2.out⟩
  · exact absurd alive_right hr

theorem rclone_any (A : Option Addr) (zs : List Int) (c : Nat) (w : World) (hA : Rd w A (nums .i64 zs)) (hl : zs.length ≤ 17592186043904) :
    Calls Try.prog 16 #[.slice A zs.length c] w fun e w' => ∃ A' c', e = .returned (.slice A' zs.length c') ∧ w'.ownsRow w.heap.size 2 1 (.slice A' zs.length c') zs.length (nums .i64 zs) ∧ Below w.heap.size w w' := by
  go_enter Try.func16, Try.ntmps16
  go_wp2_with (at_builtin; refine wpList_app et_i64s _ rfl (.tmp 3) (.tmp 4) rfl w.heap.size _ 0 [] rfl (own_empty w 2 1) A zs.length c (nums .i64 zs) rfl (hA.alloc _) (by rw [nums_length]; omega) (nums_cell _ _) (by omega) (by unfold maxLen; omega) (by simp) ?_)
  intro A' c' w1 hown hb _ _
  have hb1 := ((Below.refl _ w).alloc (Nat.le_refl _) (.cells #[] 2)).trans hb
  have Hown := Lib.hid hown; have Hb1 := Lib.hid hb1; clear hown hb hb1
  go_wp2
  go_ret
  exact ⟨_, _, rfl, Hown.out, Hb1.out⟩
end Go.Proofs.Ytfiojofcafjfeaa
