/- Matrix.Mul. -/
import Derived.Test.YtfiojofcafjfeaaRFunc
set_option linter.unusedSimpArgs false
set_option linter.unusedVariables false
namespace Go.Proofs.Ytfiojofcafjfeaa
open Go.RowKit Go.Shelf
attribute [local go_sem] Oper.semAt_some

/-- Row k of a matrix with c columns. -/
def mrow (ms : List Int) (c k : Nat) : List Int := upTo c fun j => nth ms (k * c + j)
/-- The product with a column. -/
def mulL (ms : List Int) (r c : Nat) (xs : List Int) (q : Int) : List Int := upTo r fun k => dotL (mrow ms c k) xs q

theorem mrow_len (ms : List Int) (c k : Nat) : (mrow ms c k).length = c := upTo_len _ _
theorem mrow_room {r c k : Nat} (hk : k < r) : k * c + c ≤ r * c := by
  have := Nat.mul_le_mul_right c (show k + 1 ≤ r by omega)
  rwa [Nat.succ_mul] at this
theorem nth_drop (l : List Int) (m j : Nat) : nth (l.drop m) j = nth l (m + j) := by simp [nth, List.getD_eq_getElem?_getD, List.getElem?_drop]
theorem nth_take {l : List Int} {m j : Nat} (h : j < m) : nth (l.take m) j = nth l j := by simp [nth, List.getD_eq_getElem?_getD, List.getElem?_take, h]
theorem mrow_eq {ms : List Int} {r c k : Nat} (hk : k < r) (hl : ms.length = r * c) : (ms.drop (k * c)).take c = mrow ms c k := by
  have := mrow_room (c := c) hk
  refine eq_upTo (by rw [List.length_take, List.length_drop]; omega) fun j hj => ?_
  rw [nth_take hj, nth_drop]
theorem mrow_rd {W : World} {g o : Nat} {ms : List Int} {r c k : Nat} (h : Rd W (some ⟨g, o, none⟩) (nums .i64 ms)) (hk : k < r) (hl : ms.length = r * c) : Rd W (some ⟨g, o + k * c, none⟩) (nums .i64 (mrow ms c k)) := by
  have := (h.drop (k * c)).take c
  rwa [nums_drop, nums_take, mrow_eq hk hl] at this
theorem mrow_W64 {ms : List Int} {r c k : Nat} (h : W64 ms) (hk : k < r) (hl : ms.length = r * c) : W64 (mrow ms c k) := upTo_W64 fun j hj => h _ (by have := mrow_room (c := c) hk; omega)
theorem mdot_any (r c k : Nat) (g o : Nat) (ms : List Int) (B : Option Addr) (xs : List Int) (e : Nat) (q : Int) (W : World) (hk : k < r) (hc : 1 ≤ c ∧ c ≤ 1048576) (hms : ms.length = r * c)
    (hA : Rd W (some ⟨g, o, none⟩) (nums .i64 ms)) (wm : W64 ms) (hB : Rd W B (nums .i64 xs)) (hxl : xs.length = c) (wx : W64 xs) :
    Calls Try.prog 49 #[.slice (some ⟨g, o + k * c, none⟩) c c, .slice B c e, .int .i64 q] W fun e w' => e = .returned (.tuple #[.int .i64 (dotL (mrow ms c k) xs q), .bool true]) ∧ Below W.heap.size W w' := by
  have := dot_any (some ⟨g, o + k * c, none⟩) B (mrow ms c k) xs c e q W (mrow_rd hA hk hms) hB (by rw [mrow_len, hxl]) (by rw [mrow_len]; omega) (mrow_W64 wm hk hms) wx
  rwa [mrow_len, hxl] at this
theorem mulL_fin (ms : List Int) (r c : Nat) (xs : List Int) (q : Int) : ((List.finRange r).map fun k => dotL (mrow ms c k.1) xs q) = mulL ms r c xs q := by
  refine eq_upTo (by simp) fun k hk => ?_
  rw [nth_eq _ _ (by simpa using hk)]
  simp

set_option maxRecDepth 100000 in
set_option maxHeartbeats 2000000 in
theorem mmul_any (r c : Nat) (g o nn d : Nat) (ms : List Int) (B : Option Addr) (xs : List Int) (e : Nat) (q : Int) (w : World) (hr : 1 ≤ r ∧ r ≤ 1048576) (hc : 1 ≤ c ∧ c ≤ 1048576) (hnn : nn = r * c) (hd : nn ≤ d) (hm : nn ≤ 17592186043904)
    (hms : ms.length = nn) (hA : Rd w (some ⟨g, o, none⟩) (nums .i64 ms)) (wm : W64 ms) (hB : Rd w B (nums .i64 xs)) (hxl : xs.length = c) (wx : W64 xs) :
    Calls Try.prog 44 #[.agg #[.int .i64 r, .int .i64 c, .slice (some ⟨g, o, none⟩) nn d], .slice B c e, .int .i64 q] w fun e w' => ∃ A' c', e = .returned (.tuple #[.slice A' r c', .bool true]) ∧ w'.ownsRow w.heap.size 2 1 (.slice A' r c') r (nums .i64 (mulL ms r c xs q)) ∧ Below w.heap.size w w' := by
  have hrt := fun w' => right_any r c (some ⟨g, o, none⟩) nn d w' hr hc hnn hm
  have hrw := fun cs w' => rows_any cs w'
  have Hrt := Lib.hid hrt; have Hrw := Lib.hid hrw; have Hnn := Lib.hid hnn; have Hms := Lib.hid hms; have Hxl := Lib.hid hxl; have HA := Lib.hid hA; have HB := Lib.hid hB; have WM := Lib.hid wm; have WX := Lib.hid wx; clear hrt hrw hnn hms hxl hA hB wm wx
  refine (callsIn_wide (n := 3)).1 ?_
  refine callsIn_of_wp_marks Try.func44 rfl trivial ?_ rfl
  simp only [Try.ntmps44, List.size_toArray, List.length_cons, List.length_nil, Nat.reduceAdd, Nat.reduceSub, Array.replicate_succ, Array.replicate_zero, List.push_toArray, List.append_toArray, List.nil_append, List.cons_append]
  gi_wp2_with fail
  refine ⟨trivial, ?_⟩
  refine (callsIn_wide.2 (Hrt.out _)).mono ?_
  rintro e w1 ⟨rfl, rfl⟩
  gi_wp2_with fail
  refine ⟨trivial, ?_⟩
  refine (callsIn_wide.2 (Hrw.out _ _)).mono ?_
  rintro e w2 ⟨rfl, rfl⟩
  gi_wp2_with fail
  obtain ⟨W0, hW0⟩ : ∃ W0, W0 = ((((w.alloc (.cells #[.int .i64 r, .int .i64 c, .slice (some ⟨g, o, none⟩) nn d] 66)).alloc (.cells #[.slice B c e] 31)).alloc (.cells #[.int .i64 q] 3)).alloc (.cells #[.int .i64 r, .int .i64 c, .slice (some ⟨g, o, none⟩) nn d] 66)) := ⟨_, rfl⟩
  have hs0 : W0.heap.size = w.heap.size + 1 + 1 + 1 + 1 := by rw [hW0]; simp
  have b4 : Boxed W0 (w.heap.size + 1) 31 (.slice B c e) := by
    rw [hW0]
    have := ((Boxed.new (w.alloc (.cells #[.int .i64 r, .int .i64 c, .slice (some ⟨g, o, none⟩) nn d] 66)) 31 (.slice B c e)).alloc (.cells #[.int .i64 q] 3)).alloc (.cells #[.int .i64 r, .int .i64 c, .slice (some ⟨g, o, none⟩) nn d] 66)
    simpa using this
  have b5 : Boxed W0 (w.heap.size + 1 + 1) 3 (.int .i64 q) := by
    rw [hW0]
    have := (Boxed.new ((w.alloc (.cells #[.int .i64 r, .int .i64 c, .slice (some ⟨g, o, none⟩) nn d] 66)).alloc (.cells #[.slice B c e] 31)) 3 (.int .i64 q)).alloc (.cells #[.int .i64 r, .int .i64 c, .slice (some ⟨g, o, none⟩) nn d] 66)
    simpa using this
  have hbel0 : Below w.heap.size w W0 := by rw [hW0]; exact ((((Below.refl _ w).alloc (Nat.le_refl _) _).alloc (by simp) _).alloc (by simp; omega) _).alloc (by simp; omega) _
  rw [← hW0, ← hs0]
  have bO := (Boxed.new W0 31 (.slice none 0 0)).alloc (.cells #[.int .i64 r, .int .i64 c, .slice (some ⟨g, o, none⟩) nn d] 66)
  have bM : ((W0.alloc (.cells #[.slice none 0 0] 31)).alloc (.cells #[.int .i64 r, .int .i64 c, .slice (some ⟨g, o, none⟩) nn d] 66)).heap[W0.heap.size + 1]? = some (.cells #[.int .i64 r, .int .i64 c, .slice (some ⟨g, o, none⟩) nn d] 66 (0, 0)) := by
    have := heap_alloc_new (W0.alloc (.cells #[.slice none 0 0] 31)) (.cells #[.int .i64 r, .int .i64 c, .slice (some ⟨g, o, none⟩) nn d] 66)
    simpa using this
  have HS0 := Lib.hid hs0; have HBl0 := Lib.hid hbel0; have HbM := Lib.hid bM; clear hW0
  clear hs0 hbel0 bM
  refine' wpIn_rangeFunc_ownG (F := Fence.wide) (n := 3) rfl (by omega) (gf := 68) (lb := #[.pointer (some ⟨W0.heap.size + 1, 0, none⟩)]) rfl trivial (enters_of Try.func68 (by kernel_rfl) rfl)
    (rows_stops _ (W0.heap.size + 1) w.heap.size g o r c nn d hr.2 hc Hnn.out hd _ HbM.out) rowsKeep_t (rowsKeep_b (by have := HBl0.out.size; simp; omega) (by simp)) (Below.refl _ _) (fun _ => rfl)
    (fun (pre : List (Fin r)) W => ((∃ v, Boxed W W0.heap.size 31 v ∧ W.ownsRow w.heap.size 2 1 v pre.length (nums .i64 (pre.map fun k => dotL (mrow ms c k.1) xs q)) ∧ True) ∧ Boxed W (w.heap.size + 1) 31 (.slice B c e) ∧ Boxed W (w.heap.size + 1 + 1) 3 (.int .i64 q) ∧ W.heap[W0.heap.size + 1]? = some (.cells #[.int .i64 r, .int .i64 c, .slice (some ⟨g, o, none⟩) nn d] 66 (0, 0))) ∧ Below w.heap.size w W)
    (fun _ _ _ => False)
    (OwnFrom.and (OwnFrom.and (Own.from (holdsRow_own w.heap.size W0.heap.size 31 2 1 (fun pre : List (Fin r) => pre.length) (fun pre => nums .i64 (pre.map fun k => dotL (mrow ms c k.1) xs q)) (fun _ _ => True)) _) (OwnFrom.and (ownFrom_block _ _ _ rfl) (OwnFrom.and (ownFrom_block _ _ _ rfl) (ownFrom_block _ _ _ rfl)))) (ownFrom_below (Nat.le_refl _) (by have := HBl0.out.size; simp; omega)))
    (fun _ _ _ _ _ hs _ _ => hs)
    ⟨⟨⟨_, bO, World.ownsRow_nil _ _ _ _, trivial⟩, (b4.alloc _).alloc _, (b5.alloc _).alloc _, HbM.out⟩, (HBl0.out.alloc (by have := HBl0.out.size; omega) _).alloc (by have := HBl0.out.size; simp; omega) _⟩
    _ ?assign ?body ?done ?stop
  case assign =>
    intro l x W K hK
    unfold rowEnc
    gi_wp2
    exact hK
  case body =>
    rintro l pre x W ⟨⟨⟨v, hv, hrow, _⟩, hx4, hx5, hxM⟩, hBl⟩ hlt
    have hc4 := hx4.cell
    have hc5 := hx5.cell
    have Hv := Lib.hid hv; have Hrow := Lib.hid hrow; have HM := Lib.hid hxM; have HBl := Lib.hid hBl; have H4 := Lib.hid hx4; have H5 := Lib.hid hx5; have Hlt := Lib.hid hlt; clear hv hrow hxM hBl hx4 hx5 hlt
    gi_wp2_with fail
    refine ⟨trivial, ?_⟩
    refine (CallsIn.inRound l (callsIn_wide.2 (mdot_any r c x.1 g o ms B xs _ q W x.2 hc (Hms.out.trans Hnn.out) (HA.out.below HBl.out) WM.out (HB.out.below HBl.out) Hxl.out WX.out))).mono ?_
    rintro e w3 ⟨rfl, hb3⟩
    have hv3 : Boxed w3 W0.heap.size 31 v := (hb3.block _ (Boxed.lt Hv.out)).trans Hv.out
    have hc3 := hv3.cell
    have hrow3 := own_below Hrow.out hb3
    have hs3 : w.heap.size ≤ w3.heap.size := Nat.le_trans HBl.out.size hb3.size
    have hsO : w.heap.size ≤ W0.heap.size := HBl0.out.size
    have hpl : pre.length < r := Hlt.out
    have hxM3 := (hb3.block _ (lt_of_block HM.out)).trans HM.out
    have hx43 := (hb3.block _ (lt_of_block H4.out)).trans H4.out
    have hx53 := (hb3.block _ (lt_of_block H5.out)).trans H5.out
    have HxM3 := Lib.hid hxM3; have Hx43 := Lib.hid hx43; have Hx53 := Lib.hid hx53
    have Hv3 := Lib.hid hv3; have Hb3 := Lib.hid hb3; have Hrow3 := Lib.hid hrow3; have Hs3 := Lib.hid hs3; have HsO := Lib.hid hsO; have Hpl := Lib.hid hpl; clear hv3 hb3 hrow3 hs3 hsO hpl hxM3 hx43 hx53 hc4 hc5
    obtain ⟨dv, hdv⟩ : ∃ dv, dv = dotL (mrow ms c x.1) xs q := ⟨_, rfl⟩
    have Hdv := Lib.hid hdv
    rw [← hdv]
    clear hdv
    gi_wp2_with (gi_at_builtin; refine wpListIn_push et_vec w3 rfl (.tmp 34) (.tmp 36) rfl w.heap.size W0.heap.size v pre.length _ rfl Hv3.out (by decide) Hrow3.out [.int .i64 dv] rfl rfl (nums_cell .i64 [dv]) (by have := Hpl.out; have := hr.2; omega) (by have := Hpl.out; have := hr.2; unfold maxLen; omega) Hs3.out HsO.out ?_)
    intro g1 c1 w1 k1 k2 k3 k4 k5 k6
    have hc1 := k1.cell; have hf1 := k1.frozen
    have K2 := Lib.hid k2; have K3 := Lib.hid k3; have K4 := Lib.hid k4; have K5 := Lib.hid k5; have K6 := Lib.hid k6; clear k1 k2 k3 k4 k5 k6 hc3
    gi_wp2_with fail
    have hbW : Below w.heap.size W (w1.setCell ⟨W0.heap.size, 0, none⟩ (.slice (some ⟨g1, 0, none⟩) (pre.length + 1) c1)) := (Hb3.out.mono HBl.out.size).trans K5.out
    have hne1 : W0.heap.size + 1 ≠ W0.heap.size := by omega
    have hne2 : w.heap.size + 1 ≠ W0.heap.size := by have := HS0.out; omega
    have hne3 : w.heap.size + 1 + 1 ≠ W0.heap.size := by have := HS0.out; omega
    have hM1 := K6.out _ _ _ _ _ hne1 (by decide) HxM3.out
    refine ⟨((KeepsOthers.of_grownBy (row := none) (grown_none Hb3.out) (fun _ _ h => by cases h)).trans K4.out).from _, ⟨hbW, fun _ => hM1.trans HM.out.symm⟩, ⟨⟨_, K2.out, ?_, trivial⟩, K6.out _ _ _ _ _ hne2 (by decide) Hx43.out, K6.out _ _ _ _ _ hne3 (by decide) Hx53.out, hM1⟩, HBl.out.trans hbW⟩
    have h := K3.out
    rw [Hdv.out] at h
    simpa [nums] using h
  case done =>
    rintro D ys W hD rfl ⟨⟨⟨v, hv, hrow, _⟩, hx4, hx5, hxM⟩, hBl⟩ hK
    have hc := hv.cell
    gi_wp2
    refine ⟨by simp, .inl ⟨_, _, rfl, run_takeDeferred hK, ?_⟩⟩
    obtain ⟨A', c', rfl, _⟩ := own_form hrow
    rw [List.length_finRange, mulL_fin] at *
    refine ⟨.tuple #[.slice A' r c', .bool true], by simp [results, Try.results44, go_sem], A', c', rfl, ownsRow_putObj hrow _ hK rfl, hBl.trans (belowK_b (w := w) (Nat.le_refl _) W D _ _ (by have := HBl0.out.size; simp at hD; omega) hK rfl rfl)⟩
  case stop =>
    rintro D c pre W _ _ h _
    exact h.elim
end Go.Proofs.Ytfiojofcafjfeaa
