/- The walks of Net.Run, miss, Loss and Params. A region that draws its order, within a round: by the plain calculus. No condition. -/
import Derived.Test.YtfiojofcafjfeaaGreatJ09
import Derived.Test.YtfiojofcafjfeaaGreatJ06
import Derived.Deep.RegionHeld
set_option linter.unusedSimpArgs false
set_option linter.unusedVariables false
namespace Go.Proofs.YtfiojofcafjfeaaGreat
open Go.RowKit

/-- The errors of the last layer. -/
def missL (a y : List Int) : List Int := upTo a.length fun i => wrap64 (nth a i - nth y i)
theorem missL_len (a y : List Int) : (missL a y).length = a.length := upTo_len _ _
theorem missL_W64 (a y : List Int) : W64 (missL a y) := upTo_W64 fun _ _ => wrap64_bd _

theorem miss_nil (v v2 : Value) (w : World) : Calls Tryz.prog 93 #[.pointer none, v, v2] w fun e w' => e = .returned (.tuple #[.slice none 0 0, .slice none 0 0, .bool false]) ∧ w = w' := by
  have h := trace_nil v w
  have H := Lib.hid h; clear h
  go_enter Tryz.func93, Tryz.ntmps93
  go_wp2_with fail
  refine H.out.mono ?_
  rintro e w1 ⟨rfl, rfl⟩
  go_wp2
  go_ret3
  exact ⟨rfl, rfl⟩
theorem miss_no (b : Nat) (sz ps : List Int) (q : Int) (A : Option Addr) (m c : Nat) (v2 : Value) (w : World) (h : NetAt 138 170 w b sz ps q) (hg : GoodSz sz) (hm : m ≠ szN sz 0) :
    Calls Tryz.prog 93 #[.pointer (some ⟨b, 0, none⟩), .slice A m c, v2] w fun e w' => e = .returned (.tuple #[.slice none 0 0, .slice none 0 0, .bool false]) ∧ Below w.heap.size w w' := by
  have h := trace_no b sz ps q A m c w h hg hm
  have H := Lib.hid h; clear h
  go_enter Tryz.func93, Tryz.ntmps93
  go_wp2_with fail
  refine H.out.mono ?_
  rintro e w1 ⟨rfl, hb⟩
  have Hb := Lib.hid hb; clear hb
  go_wp2
  go_ret3
  exact ⟨rfl, Hb.out⟩
theorem miss_no2 (b : Nat) (sz ps : List Int) (q : Int) (A B : Option Addr) (x : List Int) (c m d : Nat) (w : World) (h : NetAt 138 170 w b sz ps q) (hg : GoodSz sz) (wp : W64 ps) (hA : Rd w A (nums .i64 x)) (hx : x.length = szN sz 0) (wx : W64 x) (hm : m ≠ szN sz (sz.length - 1)) :
    Calls Tryz.prog 93 #[.pointer (some ⟨b, 0, none⟩), .slice A x.length c, .slice B m d] w fun e w' => e = .returned (.tuple #[.slice none 0 0, .slice none 0 0, .bool false]) ∧ Below w.heap.size w w' := by
  have ht := trace_ok b sz ps q A x c w h hg wp hA hx wx
  have hv := valL_len (sz := sz) (ps := ps) (q := q) hx (sz.length - 1)
  have hl := hg.1.1
  have hne : ((m : Int) != (szN sz (sz.length - 1) : Int)) = true := by simp; omega
  obtain ⟨n, hn⟩ : ∃ n, sz.length = n := ⟨_, rfl⟩
  rw [hn] at ht hl hv hne
  have Ht := Lib.hid ht; have Hv := Lib.hid hv; clear ht h hg wp hA hx wx hn hv hm
  obtain ⟨hl1, hl2⟩ := hl
  go_enter Tryz.func93, Tryz.ntmps93
  go_wp2_with fail
  refine Ht.out.mono ?_
  rintro e w1 ⟨A', c', vals, rfl, hr, hva, hc, hb⟩
  obtain ⟨Aj, cj, e1, e2, e3⟩ := hva.2 (n - 1) (by omega)
  rw [Hv.out] at e1 e2
  obtain ⟨bo, oo, rfl, p0⟩ := hr _ _ e1
  have hw2 : (n : Int) - 1 = ((n - 1 : Nat) : Int) := by omega
  have hw : IntKind.i64.wrap ((n : Int) - 1) = ((n - 1 : Nat) : Int) := by rw [IntWalk.i64_in _ (by omega)]; omega
  have hi : ((n - 1 : Nat) : Int) < n := by omega
  have hi2 : n - 1 < n := by omega
  have Hb := Lib.hid hb; clear hr hva e1 e2 e3 hb
  rw [hw2] at hw
  go_wp2
  go_ret3
  exact ⟨rfl, Hb.out⟩

set_option maxRecDepth 100000 in
set_option maxHeartbeats 1000000 in
theorem miss_ok (b : Nat) (sz ps : List Int) (q : Int) (A B : Option Addr) (x y : List Int) (c d : Nat) (w : World) (h : NetAt 138 170 w b sz ps q) (hg : GoodSz sz) (wp : W64 ps) (hA : Rd w A (nums .i64 x)) (hx : x.length = szN sz 0) (wx : W64 x) (hB : Rd w B (nums .i64 y)) (hy : y.length = szN sz (sz.length - 1)) :
    Calls Tryz.prog 93 #[.pointer (some ⟨b, 0, none⟩), .slice A x.length c, .slice B y.length d] w fun e w' => ∃ A' c' D dc vals, e = .returned (.tuple #[.slice A' sz.length c', .slice D y.length dc, .bool true]) ∧ Rd w' A' vals ∧ VecsAt w' vals sz.length (valL sz ps q x) ∧ sz.length ≤ c' ∧
      w'.ownsRow w.heap.size 2 1 (.slice D y.length dc) y.length (nums .i64 (missL (valL sz ps q x (sz.length - 1)) y)) ∧ Below w.heap.size w w' := by
  have ht := trace_ok b sz ps q A x c w h hg wp hA hx wx
  have hv := valL_len (sz := sz) (ps := ps) (q := q) hx (sz.length - 1)
  have hl := hg.1.1
  have hmb := (hg.1.at (k := sz.length - 1) (by omega)).2.1
  have hne : ((y.length : Int) != (szN sz (sz.length - 1) : Int)) = false := by simp; omega
  obtain ⟨n, hn⟩ : ∃ n, sz.length = n := ⟨_, rfl⟩
  obtain ⟨m, hm⟩ : ∃ m, y.length = m := ⟨_, rfl⟩
  rw [hn] at ht hl hv hne hy hmb ⊢
  rw [← hy, hm] at hv hne hmb
  rw [hm]
  obtain ⟨a, ha⟩ : ∃ a, valL sz ps q x (n - 1) = a := ⟨_, rfl⟩
  have hall := mixed_all a (fun i => wrap64 (nth a i - nth y i))
  rw [ha] at hv ⊢
  unfold missL
  rw [← hall, hv]
  clear hall
  have Ha := Lib.hid ha; clear ha
  have Ht := Lib.hid ht; have Hv := Lib.hid hv; have HB := Lib.hid hB; have Hm := Lib.hid hm; clear ht h hg wp hA hx wx hn hv hm hB hy
  obtain ⟨hl1, hl2⟩ := hl
  go_enter Tryz.func93, Tryz.ntmps93
  go_wp2_with fail
  refine Ht.out.mono ?_
  rintro e w1 ⟨A', c', vals, rfl, hr, hva, hc, hb⟩
  obtain ⟨Aj, cj, e1, e2, e3⟩ := hva.2 (n - 1) (by omega)
  rw [Ha.out, Hv.out] at e1 e2
  rw [Ha.out] at e3
  have hrr := hr
  obtain ⟨bo, oo, rfl, p0⟩ := hr _ _ e1
  have hw2 : (n : Int) - 1 = ((n - 1 : Nat) : Int) := by omega
  have hw : IntKind.i64.wrap ((n : Int) - 1) = ((n - 1 : Nat) : Int) := by rw [IntWalk.i64_in _ (by omega)]; omega
  have hi : ((n - 1 : Nat) : Int) < n := by omega
  have hi2 : n - 1 < n := by omega
  have hal := Hv.out
  have hcl := vclone_any Aj a cj w1 e3 (by omega)
  rw [hal] at hcl
  have Hcl := Lib.hid hcl; have Hal := Lib.hid hal; have Hb := Lib.hid hb; have Hva := Lib.hid hva; have Hrr := Lib.hid hrr; have Hc := Lib.hid hc; clear hr hrr hva e1 e2 e3 hb hcl hal hc
  rw [hw2] at hw
  go_wp2_with fail
  refine Hcl.out.mono ?_
  rintro e w2 ⟨D, dc, rfl, hdc, ho2, hb2⟩
  have hW2 := Hb.out.trans (hb2.mono Hb.out.size)
  have hbz := Hb.out.size
  have Ho2c := Lib.hid ho2
  have ho2 := own_base ho2 hbz
  have HW2 := Lib.hid hW2; have Ho2 := Lib.hid ho2; have Hb2 := Lib.hid hb2; clear hW2 ho2 hb2 p0 hw hw2 hi hi2 hne
  go_wp2_with fail
  go_loopw [42] (fun i wr => ∃ k : Nat, k ≤ m ∧ i = .int .i64 k ∧ wr.ownsRow w.heap.size 2 1 (.slice D m dc) m (nums .i64 (mixed a k (fun i => wrap64 (nth a i - nth y i)))) ∧ Keep (fun i => (Value.slice D m dc).ownBlock = some i) w2 wr) (fun i _ => m - (intOf i).toNat)
  case atStart => exact ⟨0, Nat.zero_le _, rfl, by rw [mixed_zero]; exact Ho2.out, Keep.refl _ _⟩
  case round =>
    obtain ⟨k, hk, rfl, hown, hK⟩ := hrel
    by_cases hlt : k < m
    · obtain ⟨g7, d7, hv7, hg7, _⟩ := hown.form (by omega)
      simp only [Value.slice.injEq] at hv7
      obtain ⟨rfl, hx7, rfl⟩ := hv7
      clear hx7
      have hjz : k < a.length := by rw [Hal.out]; exact hlt
      have p1 := own_num hown hlt
      rw [mixed_nth _ hjz, if_neg (by omega)] at p1
      have f1 := hown.frozenAt k
      have hst := mixed_set (l := a) (k := k) (fun i => wrap64 (nth a i - nth y i)) hjz
      obtain ⟨by0, oy, rfl, py⟩ := HB.out.num (show k < y.length by rw [Hm.out]; exact hlt)
      have hby : by0 < w.heap.size := lt_of_cell py
      have hne : g7 ≠ by0 := by omega
      have hbw : Below w.heap.size w wr := HW2.out.trans (hK.toBelow HW2.out.size (fun i hi => (Ho2.out.lt i hi).1))
      have pyr := (hbw.cell (p := ⟨by0, oy + k, none⟩) hby).trans py
      have HO := Lib.hid hown; have HK := Lib.hid hK; have Hst := Lib.hid hst; clear hown hK hst hjz hbw py
      go_wp2_with fail
      have hki : (k : Int) < m := by omega
      have hSw : (fun w' : World => w'.cell? ⟨g7, k, none⟩ = some (.int .i64 (nth a k)) ∧ w'.cell? ⟨by0, oy + k, none⟩ = some (.int .i64 (nth y k))) wr.drew := ⟨p1, pyr⟩
      refine wp_region_X 11 (fun w' : World => w'.cell? ⟨g7, k, none⟩ = some (.int .i64 (nth a k)) ∧ w'.cell? ⟨by0, oy + k, none⟩ = some (.int .i64 (nth y k))) (by kernel_rfl) ?_
      refine wpAnyX_take (i := 0) (v := ?_) rfl (by kernel_rfl) (by decide) (by kernel_rfl) (by kernel_rfl) (by kernel_rfl) (by kernel_rfl) (fun _ _ _ h => h) (Or.inl ⟨by rfl, ?_⟩) hSw ?_
      rotate_left
      · intro w9 hS9; (try dsimp only at hS9); obtain ⟨s1, s2⟩ := hS9; go_simp; (try with_reducible rfl)
      simp only [List.getElem_toArray, List.getElem_cons_succ, List.getElem_cons_zero, Act.put, List.setIfInBounds_toArray, List.set_cons_zero, List.set_cons_succ]
      refine wpAnyX_take (i := 1) (v := ?_) rfl (by kernel_rfl) (by decide) (by kernel_rfl) (by kernel_rfl) (by kernel_rfl) (by kernel_rfl) (fun _ _ _ h => h) (Or.inl ⟨by rfl, ?_⟩) hSw ?_
      rotate_left
      · intro w9 hS9; (try dsimp only at hS9); obtain ⟨s1, s2⟩ := hS9; go_simp; (try with_reducible rfl)
      simp only [List.getElem_toArray, List.getElem_cons_succ, List.getElem_cons_zero, Act.put, List.setIfInBounds_toArray, List.set_cons_zero, List.set_cons_succ]
      refine wpAnyX_take (i := 2) (v := ?_) rfl (by kernel_rfl) (by decide) (by kernel_rfl) (by kernel_rfl) (by kernel_rfl) (by kernel_rfl) (fun _ _ _ h => h) (Or.inl ⟨by rfl, ?_⟩) hSw ?_
      rotate_left
      · intro w9 hS9; (try dsimp only at hS9); obtain ⟨s1, s2⟩ := hS9; go_simp; (try with_reducible rfl)
      simp only [List.getElem_toArray, List.getElem_cons_succ, List.getElem_cons_zero, Act.put, List.setIfInBounds_toArray, List.set_cons_zero, List.set_cons_succ]
      refine wpAnyX_take (i := 3) (v := ?_) rfl (by kernel_rfl) (by decide) (by kernel_rfl) (by kernel_rfl) (by kernel_rfl) (by kernel_rfl) (fun _ _ _ h => h) (Or.inl ⟨by rfl, ?_⟩) hSw ?_
      rotate_left
      · intro w9 hS9; (try dsimp only at hS9); obtain ⟨s1, s2⟩ := hS9; go_simp; (try with_reducible rfl)
      simp only [List.getElem_toArray, List.getElem_cons_succ, List.getElem_cons_zero, Act.put, List.setIfInBounds_toArray, List.set_cons_zero, List.set_cons_succ]
      refine wpAnyX_take (i := 4) (v := ?_) rfl (by kernel_rfl) (by decide) (by kernel_rfl) (by kernel_rfl) (by kernel_rfl) (by kernel_rfl) (fun _ _ _ h => h) (Or.inl ⟨by rfl, ?_⟩) hSw ?_
      rotate_left
      · intro w9 hS9; (try dsimp only at hS9); obtain ⟨s1, s2⟩ := hS9; go_simp; (try with_reducible rfl)
      simp only [List.getElem_toArray, List.getElem_cons_succ, List.getElem_cons_zero, Act.put, List.setIfInBounds_toArray, List.set_cons_zero, List.set_cons_succ]
      refine wpAnyX_take (i := 5) (v := ?_) rfl (by kernel_rfl) (by decide) (by kernel_rfl) (by kernel_rfl) (by kernel_rfl) (by kernel_rfl) (fun _ _ _ h => h) (Or.inl ⟨by rfl, ?_⟩) hSw ?_
      rotate_left
      · intro w9 hS9; (try dsimp only at hS9); obtain ⟨s1, s2⟩ := hS9; go_simp; (try with_reducible rfl)
      simp only [List.getElem_toArray, List.getElem_cons_succ, List.getElem_cons_zero, Act.put, List.setIfInBounds_toArray, List.set_cons_zero, List.set_cons_succ]
      refine wpAnyX_take (i := 6) (v := ?_) rfl (by kernel_rfl) (by decide) (by kernel_rfl) (by kernel_rfl) (by kernel_rfl) (by kernel_rfl) (fun _ _ _ h => h) (Or.inl ⟨by rfl, ?_⟩) hSw ?_
      rotate_left
      · intro w9 hS9; (try dsimp only at hS9); obtain ⟨s1, s2⟩ := hS9; go_simp; (try with_reducible rfl)
      simp only [List.getElem_toArray, List.getElem_cons_succ, List.getElem_cons_zero, Act.put, List.setIfInBounds_toArray, List.set_cons_zero, List.set_cons_succ]
      refine wpAnyX_take (i := 7) (v := ?_) rfl (by kernel_rfl) (by decide) (by kernel_rfl) (by kernel_rfl) (by kernel_rfl) (by kernel_rfl) (fun _ _ _ h => h) (Or.inl ⟨by rfl, ?_⟩) hSw ?_
      rotate_left
      · intro w9 hS9; (try dsimp only at hS9); obtain ⟨s1, s2⟩ := hS9; go_simp; (try with_reducible rfl)
      simp only [List.getElem_toArray, List.getElem_cons_succ, List.getElem_cons_zero, Act.put, List.setIfInBounds_toArray, List.set_cons_zero, List.set_cons_succ]
      refine wpAnyX_take (i := 8) (v := ?_) rfl (by kernel_rfl) (by decide) (by kernel_rfl) (by kernel_rfl) (by kernel_rfl) (by kernel_rfl) (fun _ _ _ h => h) (Or.inl ⟨by rfl, ?_⟩) hSw ?_
      rotate_left
      · intro w9 hS9; (try dsimp only at hS9); obtain ⟨s1, s2⟩ := hS9; go_simp; (try with_reducible rfl)
      simp only [List.getElem_toArray, List.getElem_cons_succ, List.getElem_cons_zero, Act.put, List.setIfInBounds_toArray, List.set_cons_zero, List.set_cons_succ]
      refine wpAnyX_take (i := 9) (v := ?_) rfl (by kernel_rfl) (by decide) (by kernel_rfl) (by kernel_rfl) (by kernel_rfl) (by kernel_rfl) (fun _ _ _ h => h) (Or.inl ⟨by rfl, ?_⟩) hSw ?_
      rotate_left
      · intro w9 hS9; (try dsimp only at hS9); obtain ⟨s1, s2⟩ := hS9; go_simp; (try with_reducible rfl)
      simp only [List.getElem_toArray, List.getElem_cons_succ, List.getElem_cons_zero, Act.put, List.setIfInBounds_toArray, List.set_cons_zero, List.set_cons_succ]
      refine wpAnyX_ready (rs := [10]) (by kernel_rfl) (by simp) ?_
      refine AllReadyX.cons rfl (fun K hK => ?_) AllReadyX.nil
      simp only [List.getElem_toArray, List.getElem_cons_succ, List.getElem_cons_zero]
      go_simp
      refine (sub_any _ _ _).mono ?_
      rintro e w9 ⟨rfl, rfl⟩
      dsimp only
      refine hK.out _ _ hSw (fun hSw => ?_)
      clear hK K hSw
      refine wpAnyX_tail (by rfl) (by kernel_rfl) ?_
      simp only [List.drop_succ_cons, List.drop_zero]
      go_wp2_with fail
      go_roundw
      case rel =>
        refine ⟨k + 1, by omega, by go_num, ?_, ?_⟩
        · rw [← Hst.out]; exact own_put (own_drewN HO.out 1) k _
        · exact Keep.setCell (HK.out.drewN 1) ⟨g7, k, none⟩ (.inr rfl) _
      case measure => simp [intOf]; omega
    · obtain rfl : k = m := by omega
      have hb2r : Below w1.heap.size w1 wr := Hb2.out.trans (hK.toBelow Hb2.out.size (fun i hi => (Ho2c.out.lt i hi).1))
      have HO := Lib.hid hown; have HB2 := Lib.hid hb2r; clear hown hb2r hK
      go_wp2_with fail
      go_ret3
      exact ⟨_, _, _, _, vals, rfl, Hrr.out.below HB2.out, Hva.out.below HB2.out, Hc.out, HO.out, Hb.out.trans (HB2.out.mono Hb.out.size)⟩

theorem loss_nil (v v2 : Value) (w : World) : Calls Tryz.prog 62 #[.pointer none, v, v2] w fun e w' => e = .returned (.tuple #[.int .i64 0, .bool false]) ∧ w = w' := by
  have h := miss_nil v v2 w
  have H := Lib.hid h; clear h
  go_enter Tryz.func62, Tryz.ntmps62
  go_wp2_with fail
  refine H.out.mono ?_
  rintro e w1 ⟨rfl, rfl⟩
  go_wp2
  go_ret2
  exact ⟨rfl, rfl⟩
theorem loss_no (b : Nat) (sz ps : List Int) (q : Int) (A B : Option Addr) (x : List Int) (c m d : Nat) (w : World) (h : NetAt 138 170 w b sz ps q) (hg : GoodSz sz) (wp : W64 ps) (hA : Rd w A (nums .i64 x)) (wx : W64 x) (hm : x.length ≠ szN sz 0 ∨ m ≠ szN sz (sz.length - 1)) :
    Calls Tryz.prog 62 #[.pointer (some ⟨b, 0, none⟩), .slice A x.length c, .slice B m d] w fun e w' => e = .returned (.tuple #[.int .i64 0, .bool false]) ∧ Below w.heap.size w w' := by
  have h : Calls Tryz.prog 93 #[.pointer (some ⟨b, 0, none⟩), .slice A x.length c, .slice B m d] w fun e w' => e = .returned (.tuple #[.slice none 0 0, .slice none 0 0, .bool false]) ∧ Below w.heap.size w w' := by
    by_cases h1 : x.length = szN sz 0
    · exact miss_no2 b sz ps q A B x c m d w h hg wp hA h1 wx (hm.resolve_left (fun e => e h1))
    · exact miss_no b sz ps q A x.length c _ w h hg h1
  have H := Lib.hid h; clear h hm wp hA wx hg
  go_enter Tryz.func62, Tryz.ntmps62
  go_wp2_with fail
  refine H.out.mono ?_
  rintro e w1 ⟨rfl, hb⟩
  have Hb := Lib.hid hb; clear hb
  go_wp2
  go_ret2
  exact ⟨rfl, Hb.out⟩

/-- The loss of an example. -/
def lossN (sz ps : List Int) (q : Int) (x y : List Int) : Int := dotL (missL (valL sz ps q x (sz.length - 1)) y) (missL (valL sz ps q x (sz.length - 1)) y) q
theorem loss_ok (b : Nat) (sz ps : List Int) (q : Int) (A B : Option Addr) (x y : List Int) (c d : Nat) (w : World) (h : NetAt 138 170 w b sz ps q) (hg : GoodSz sz) (wp : W64 ps) (hA : Rd w A (nums .i64 x)) (hx : x.length = szN sz 0) (wx : W64 x) (hB : Rd w B (nums .i64 y)) (hy : y.length = szN sz (sz.length - 1)) :
    Calls Tryz.prog 62 #[.pointer (some ⟨b, 0, none⟩), .slice A x.length c, .slice B y.length d] w fun e w' => e = .returned (.tuple #[.int .i64 (lossN sz ps q x y), .bool true]) ∧ Below w.heap.size w w' := by
  have hm := miss_ok b sz ps q A B x y c d w h hg wp hA hx wx hB hy
  have hml : (missL (valL sz ps q x (sz.length - 1)) y).length = y.length := by rw [missL_len, valL_len hx, hy]
  have hmb := (hg.1.at (k := sz.length - 1) (by have := hg.1.1; omega)).2.1
  rw [← hy] at hmb
  have hbl := h.lt
  obtain ⟨S, Ap, cp, Al, cl, rows, h0, h1, h2, h3, h4, h5, h6⟩ := h
  unfold lossN
  obtain ⟨e, he⟩ : ∃ e, missL (valL sz ps q x (sz.length - 1)) y = e := ⟨_, rfl⟩
  have we : W64 e := he ▸ missL_W64 _ _
  rw [he] at hm hml ⊢
  have Hm := Lib.hid hm; have Hml := Lib.hid hml; have H0 := Lib.hid h0; have WE := Lib.hid we
  clear hm hml h0 h1 h2 h3 h4 h5 h6 he we hA hx wx hB hy wp hg
  go_enter Tryz.func62, Tryz.ntmps62
  go_wp2_with fail
  refine Hm.out.mono ?_
  rintro e9 w1 ⟨A', c', D, dc, vals, rfl, hr, hva, hc, ho, hb⟩
  have h1 := (hb.block b hbl).trans H0.out
  have r0 := cell_of_row w1 _ 0 _ _ _ h1
  have r1 := cell_of_row w1 _ 1 _ _ _ h1
  have r2 := cell_of_row w1 _ 2 _ _ _ h1
  have r3 := cell_of_row w1 _ 3 _ _ _ h1
  have rf := fun j => frozen_of_row w1 _ j _ _ h1
  have hrd := Rd.own ho
  have hd := dot_any D D e e dc dc q w1 hrd hrd rfl (by rw [Hml.out]; omega) WE.out WE.out
  rw [Hml.out] at hd
  have Hd := Lib.hid hd; have Hb := Lib.hid hb; clear hr hva hc ho hb h1 hrd hd
  go_wp2_with fail
  refine Hd.out.mono ?_
  rintro e9 w2 ⟨rfl, hb2⟩
  have Hb2 := Lib.hid hb2; clear hb2 r0 r1 r2 r3 rf
  go_wp2
  go_ret2
  exact ⟨rfl, Hb.out.trans (Hb2.out.mono Hb.out.size)⟩
end Go.Proofs.YtfiojofcafjfeaaGreat
namespace Go.Proofs.YtfiojofcafjfeaaGreat
open Go.RowKit Go.Shelf

theorem rows_inRound {l n : Nat} {P : Program} {row : String} {args : Array Value} {w : World} {R : Value → World → Prop} (h : Rows P row args w R) : RowsIn (Fence.wide.inRound l) n P row args w R :=
  fun c cs _ => let ⟨v, w', r, s⟩ := h c cs; ⟨v, w', r, (stepsIn_wide (P := P)).2 s⟩

theorem oper_inRound {l n : Nat} {P : Program} {o : Oper} {a : Act} {w : World} {K : Act → World → Prop} {Q : Exit → Act → World → Prop} (hnd : ∀ c, o.op ≠ .defer c) (h : o.wp P a w K Q) : o.wpIn (Fence.wide.inRound l) n P a w K Q := by
  unfold Oper.wp at h
  unfold Oper.wpIn
  refine ⟨fun _ _ => trivial, ?_⟩
  rw [Oper.semAt_plain _ _ _ hnd]
  generalize (execOp a.eval o).run P w = r at *
  cases r with
  | ok x w' =>
    cases x <;> simp only [Oper.upon, Oper.uponIn] at h ⊢ <;>
      first
        | exact h
        | exact ⟨fun h' => (by cases h'), CallsIn.inRound l (callsIn_wide.2 h)⟩
        | exact ⟨fun h' => (by cases h'), rows_inRound h⟩
        | exact h.elim
  | halt x w' => cases x <;> simp only [Oper.upon, Oper.uponIn] at h ⊢ <;> exact h

theorem wpOp_inRound {l n : Nat} {P : Program} {ops : Array Oper} {Q : Exit → Act → World → Prop} (hnd : ∀ (i : Nat) (o : Oper), ops[i]? = some o → ∀ c, o.op ≠ .defer c) (hno : ¬ LetsOut Q) {i : Nat} {K : Act → World → Prop} {a : Act} {w : World}
    (h : wpOp P ops Q i K a w) : wpOpIn (Fence.wide.inRound l) n P ops Q i K a w := by
  unfold wpOp at h
  unfold wpOpIn
  split at h
  · rename_i hi; simp only [hi]; exact h
  · rename_i o hi
    simp only [hi]
    split at h
    · rename_i hw
      rw [if_pos hw]
      rcases h with h | ⟨_, h⟩
      · exact oper_inRound (hnd i o hi) h
      · exact absurd h hno
    · rename_i hw
      rw [if_neg hw]
      exact ⟨fun _ _ => trivial, h⟩

theorem wpAny_inRound {l n : Nat} {P : Program} {md : Region.Mode} {ops : Array Oper} {Q : Exit → Act → World → Prop} (hnd : ∀ (i : Nat) (o : Oper), ops[i]? = some o → ∀ c, o.op ≠ .defer c) (hno : ¬ LetsOut Q) : ∀ (fuel : Nat) (listed : Array Bool) (a : Act) (w : World),
    wpAny P md ops Q fuel listed a w → wpAnyIn (Fence.wide.inRound l) n P md ops Q fuel listed a w
  | 0, _, _, _, h => h
  | fuel + 1, _, _, _, h => ⟨h.1, fun i hi => wpOpIn_mono (fun a' w' h' => wpAny_inRound hnd hno fuel _ a' w' h') (wpOp_inRound hnd hno (h.2 i hi))⟩

/-- No operation defers. -/
def Defers : Op → Bool
  | .defer _ => true
  | _ => false
theorem noDefer {ops : Array Oper} (h : ops.all (fun o => !Defers o.op) = true) : ∀ (i : Nat) (o : Oper), ops[i]? = some o → ∀ c, o.op ≠ .defer c := fun i o ho c e => by
  have := (Array.all_eq_true.1 h) i (Array.getElem?_eq_some_iff.1 ho).1
  rw [(Array.getElem?_eq_some_iff.1 ho).2, e] at this
  cases this

/-- **The beginning of a region that draws its order, in a round.** -/
theorem region_inRound {l n : Nat} {P : Program} {ops : Array Oper} {Q : Exit → Act → World → Prop} (S : World → Prop) {id : Nat} {a : Act} {w : World} (hm : P.follows .mixedOrders = true) (hnd : ops.all (fun o => !Defers o.op) = true) (hno : ¬ LetsOut Q)
    (h : wpAnyH P .any ops Q S ops.size (Array.replicate ops.size false) a w.drew) : (Code.region id ops true).wpIn (Fence.wide.inRound l) n P Q a w :=
  wpIn_region_any hm (wpAny_inRound (noDefer hnd) hno _ _ _ _ (wpAny_of_held _ _ _ _ h))
end Go.Proofs.YtfiojofcafjfeaaGreat
