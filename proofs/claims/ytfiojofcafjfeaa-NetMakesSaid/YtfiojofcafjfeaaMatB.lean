/- Matrix.Back. -/
import Derived.Test.YtfiojofcafjfeaaMatM
import Derived.Test.YtfiojofcafjfeaaRoundOpen
set_option linter.unusedSimpArgs false
set_option linter.unusedVariables false
namespace Go.Proofs.Ytfiojofcafjfeaa
open Go.RowKit Go.Shelf
attribute [local go_sem] Oper.semAt_some

theorem own_cells {W : World} {base : Nat} {e : TypeId} {size n c G : Nat} {xs : List Value} {o : Obj} (h : W.ownsRow base e size (.slice (some ⟨G, 0, none⟩) n c) n xs) (ho : W.heap[G]? = some o) : o.isCells = true := by
  rcases h.2 with ⟨h0, _⟩ | ⟨g, cap, cur, hv, _, hgb, _⟩
  · cases h0
  · simp only [Value.slice.injEq, Option.some.injEq, Addr.mk.injEq] at hv
    rw [← hv.1.1, ho] at hgb
    cases hgb; rfl
/-- What Back adds up over some rows. -/
def backF (ms : List Int) (c : Nat) (ys : List Int) (q : Int) (acc : List Int) (k : Nat) : List Int := addL acc (scaleL (mrow ms c k) (nth ys k) q)
/-- The transposed matrix times a column. -/
def backL (ms : List Int) (r c : Nat) (ys : List Int) (q : Int) : List Int := (List.range r).foldl (backF ms c ys q) (List.replicate c 0)
theorem backF_len (ms : List Int) (c : Nat) (ys : List Int) (q : Int) (acc : List Int) (k : Nat) : (backF ms c ys q acc k).length = acc.length := upTo_len _ _
theorem back_fin (ms : List Int) (r c : Nat) (ys : List Int) (q : Int) : ((List.finRange r).foldl (fun acc k => backF ms c ys q acc k.1) (List.replicate c 0)) = backL ms r c ys q := by
  unfold backL
  have h : List.range r = (List.finRange r).map (·.1) := List.ext_getElem (by simp) (by simp)
  rw [h, List.foldl_map]
theorem mscale_any (r c k : Nat) (g o : Nat) (ms : List Int) (y q : Int) (W : World) (hk : k < r) (hc : 1 ≤ c ∧ c ≤ 1048576) (hms : ms.length = r * c)
    (hA : Rd W (some ⟨g, o, none⟩) (nums .i64 ms)) (wm : W64 ms) (hy : -9223372036854775808 ≤ y ∧ y ≤ 9223372036854775807) :
    Calls Try.prog 60 #[.slice (some ⟨g, o + k * c, none⟩) c c, .int .i64 y, .int .i64 q] W fun e w' => ∃ A' c', e = .returned (.slice A' c c') ∧ w'.ownsRow W.heap.size 2 1 (.slice A' c c') c (nums .i64 (scaleL (mrow ms c k) y q)) ∧ Below W.heap.size W w' := by
  have := scale_any (some ⟨g, o + k * c, none⟩) (mrow ms c k) c y q W (mrow_rd hA hk hms) (by rw [mrow_len]; omega) (mrow_W64 wm hk hms) hy
  rwa [mrow_len] at this

/-- What holds between two rounds of Back. -/
def BackI (r c : Nat) (g o nn d : Nat) (ms : List Int) (B : Option Addr) (ys : List Int) (e : Nat) (q : Int) (w : World) (G N M : Nat) (pre : List (Fin r)) (W : World) : Prop :=
  (W.ownsRow w.heap.size 2 1 (.slice (some ⟨G, 0, none⟩) c c) c (nums .i64 (pre.foldl (fun acc k => backF ms c ys q acc k.1) (List.replicate c 0))) ∧ Boxed W N 31 (.slice (some ⟨G, 0, none⟩) c c) ∧ Boxed W (w.heap.size + 1) 31 (.slice B r e) ∧ Boxed W (w.heap.size + 1 + 1) 3 (.int .i64 q) ∧ W.heap[M]? = some (.cells #[.int .i64 r, .int .i64 c, .slice (some ⟨g, o, none⟩) nn d] 66 (0, 0))) ∧ Below w.heap.size w W
theorem backI_own (r c : Nat) (g o nn d : Nat) (ms : List Int) (B : Option Addr) (ys : List Int) (e : Nat) (q : Int) (w : World) (G N M K : Nat) (hK : w.heap.size ≤ K) : OwnFrom K (BackI r c g o nn d ms B ys e q w G N M) := by
  intro s W W' row hs hg hr
  obtain ⟨⟨h1, h2, h3, h4, h5⟩, h6⟩ := hs
  have k6 := ownFrom_below (β := Unit) (Nat.le_refl _) hK () W W' row h6 hg hr
  exact ⟨⟨own_turn h1 hg hr, block_turn rfl h2 hg hr, block_turn rfl h3 hg hr, block_turn rfl h4 hg hr, block_turn rfl h5 hg hr⟩, k6⟩

set_option maxRecDepth 100000 in
set_option maxHeartbeats 2000000 in
theorem mback_any (r c : Nat) (g o nn d : Nat) (ms : List Int) (B : Option Addr) (ys : List Int) (e : Nat) (q : Int) (w : World) (hr : 1 ≤ r ∧ r ≤ 1048576) (hc : 1 ≤ c ∧ c ≤ 1048576) (hnn : nn = r * c) (hd : nn ≤ d) (hm : nn ≤ 17592186043904)
    (hms : ms.length = nn) (hA : Rd w (some ⟨g, o, none⟩) (nums .i64 ms)) (wm : W64 ms) (hB : Rd w B (nums .i64 ys)) (hyl : ys.length = r) (wy : W64 ys) :
    Calls Try.prog 34 #[.agg #[.int .i64 r, .int .i64 c, .slice (some ⟨g, o, none⟩) nn d], .slice B r e, .int .i64 q] w fun e w' => ∃ A' c', e = .returned (.tuple #[.slice A' c c', .bool true]) ∧ w'.ownsRow w.heap.size 2 1 (.slice A' c c') c (nums .i64 (backL ms r c ys q)) ∧ Below w.heap.size w w' := by
  have hrt := fun w' => right_any r c (some ⟨g, o, none⟩) nn d w' hr hc hnn hm
  have hrw := fun cs w' => rows_any cs w'
  have hmk : (8 : Nat) * c ≤ 281474976710656 := by omega
  have Hmk := Lib.hid hmk; clear hmk
  have Hrt := Lib.hid hrt; have Hrw := Lib.hid hrw; have Hnn := Lib.hid hnn; have Hms := Lib.hid hms; have Hyl := Lib.hid hyl; have HA := Lib.hid hA; have HB := Lib.hid hB; have WM := Lib.hid wm; have WY := Lib.hid wy; clear hrt hrw hnn hms hyl hA hB wm wy
  refine (callsIn_wide (n := 3)).1 ?_
  refine callsIn_of_wp_marks Try.func34 rfl trivial ?_ rfl
  simp only [Try.ntmps34, List.size_toArray, List.length_cons, List.length_nil, Nat.reduceAdd, Nat.reduceSub, Array.replicate_succ, Array.replicate_zero, List.push_toArray, List.append_toArray, List.nil_append, List.cons_append]
  gi_wp2_with fail
  refine ⟨trivial, ?_⟩
  refine (callsIn_wide.2 (Hrt.out _)).mono ?_
  rintro e w1 ⟨rfl, rfl⟩
  gi_wp2_with (gi_at_make; refine wpListIn_mk et_vec _ rfl (.tmp 22) (.tmp 22) rfl rfl c rfl rfl Hmk.out (by unfold maxLen; omega) ?_)
  intro w2 hown2 hb2
  rw [nums_rep] at hown2
  have hb02 : Below w.heap.size w w2 := Below.trans (((((Below.refl _ w).alloc (Nat.le_refl _) _).alloc (by simp) _).alloc (by simp; omega) _).alloc (by simp; omega) _) (hb2.mono (by omega))
  have h3 : w2.heap[w.heap.size]? = some (.cells #[.int .i64 r, .int .i64 c, .slice (some ⟨g, o, none⟩) nn d] 66 (0, 0)) := by
    refine (hb2.block w.heap.size (by omega)).trans ?_
    refine (Below.heap_alloc _ _ _ (by first | (simp; done) | (simp; omega))).trans ((Below.heap_alloc _ _ _ (by first | (simp; done) | (simp; omega))).trans ((Below.heap_alloc _ _ _ (by simp)).trans (heap_alloc_new w _)))
  have h4 : Boxed w2 (w.heap.size + 1) 31 (.slice B r e) := by
    refine (hb2.block (w.heap.size + 1) (by omega)).trans ?_
    refine (Below.heap_alloc _ _ _ (by first | (simp; done) | (simp; omega))).trans ((Below.heap_alloc _ _ _ (by simp)).trans ?_)
    have := heap_alloc_new (w.alloc (.cells #[.int .i64 r, .int .i64 c, .slice (some ⟨g, o, none⟩) nn d] 66)) (.cells #[.slice B r e] 31)
    simpa using this
  have h5 : Boxed w2 (w.heap.size + 1 + 1) 3 (.int .i64 q) := by
    refine (hb2.block (w.heap.size + 1 + 1) (by omega)).trans ?_
    refine (Below.heap_alloc _ _ _ (by simp)).trans ?_
    have := heap_alloc_new ((w.alloc (.cells #[.int .i64 r, .int .i64 c, .slice (some ⟨g, o, none⟩) nn d] 66)).alloc (.cells #[.slice B r e] 31)) (.cells #[.int .i64 q] 3)
    simpa using this
  obtain ⟨G, hG⟩ : ∃ G, w.heap.size + 1 + 1 + 1 + 1 = G := ⟨_, rfl⟩
  rw [hG] at hown2 hb2 ⊢
  have Hown2 := Lib.hid hown2; have Hb02 := Lib.hid hb02; have HG := Lib.hid hG; have H3 := Lib.hid h3; have H4 := Lib.hid h4; have H5 := Lib.hid h5
  have m0 := cell_of_row w2 _ 0 _ _ _ h3
  have m1 := cell_of_row w2 _ 1 _ _ _ h3
  have m2 := cell_of_row w2 _ 2 _ _ _ h3
  have mf := fun j => frozen_of_row w2 _ j _ _ h3
  have hs2 : w.heap.size < w2.heap.size := lt_of_block h3
  clear hown2 hb2 hb02 hG h3 h4 h5
  gi_wp2_with fail
  refine ⟨trivial, ?_⟩
  refine (callsIn_wide.2 (Hrw.out _ _)).mono ?_
  rintro e w1 ⟨rfl, rfl⟩
  gi_wp2_with fail
  obtain ⟨W0, hW0⟩ : ∃ W0, W0 = w2.alloc (.cells #[.slice (some ⟨G, 0, none⟩) c c] 31) := ⟨_, rfl⟩
  rw [← hW0]
  have hs0 : W0.heap.size = w2.heap.size + 1 := by rw [hW0]; simp
  have bO : Boxed W0 w2.heap.size 31 (.slice (some ⟨G, 0, none⟩) c c) := by rw [hW0]; exact Boxed.new w2 _ _
  have b4 : Boxed W0 (w.heap.size + 1) 31 (.slice B r e) := by rw [hW0]; exact H4.out.alloc _
  have b5 : Boxed W0 (w.heap.size + 1 + 1) 3 (.int .i64 q) := by rw [hW0]; exact H5.out.alloc _
  have r0 : W0.ownsRow w.heap.size 2 1 (.slice (some ⟨G, 0, none⟩) c c) c (nums .i64 (List.replicate c 0)) := by rw [hW0]; exact own_base (Hown2.out.alloc _) (by have := HG.out; omega)
  have hbel0 : Below w.heap.size w W0 := by rw [hW0]; exact Hb02.out.alloc (by omega) _
  have bM : (W0.alloc (.cells #[.int .i64 r, .int .i64 c, .slice (some ⟨g, o, none⟩) nn d] 66)).heap[W0.heap.size]? = some (.cells #[.int .i64 r, .int .i64 c, .slice (some ⟨g, o, none⟩) nn d] 66 (0, 0)) := heap_alloc_new W0 _
  obtain ⟨N, hN⟩ : ∃ N, N = w2.heap.size := ⟨_, rfl⟩
  rw [← hN] at bO hs0 ⊢
  rw [← hs0]
  have HS0 := Lib.hid hs0; have HBl0 := Lib.hid hbel0; have HbM := Lib.hid bM; have HbO := Lib.hid bO; have Hb4 := Lib.hid b4; have Hb5 := Lib.hid b5; have Hr0 := Lib.hid r0; have HN := Lib.hid hN; have HW0 := Lib.hid hW0
  clear hs0 hbel0 bM bO b4 b5 r0 hN hW0 m0 m1 m2 mf hs2
  have hI0 : BackI r c g o nn d ms B ys e q w G N W0.heap.size [] (W0.alloc (.cells #[.int .i64 r, .int .i64 c, .slice (some ⟨g, o, none⟩) nn d] 66)) := ⟨⟨Hr0.out.alloc _, HbO.out.alloc _, Hb4.out.alloc _, Hb5.out.alloc _, HbM.out⟩, HBl0.out.alloc (by have := HBl0.out.size; omega) _⟩
  refine' wpIn_rangeFunc_ownG (F := Fence.wide) (n := 3) rfl (by omega) (gf := 68) (lb := #[.pointer (some ⟨W0.heap.size, 0, none⟩)]) rfl trivial (enters_of Try.func68 (by kernel_rfl) rfl)
    (rows_stops _ W0.heap.size w.heap.size g o r c nn d hr.2 hc Hnn.out hd _ HbM.out) rowsKeep_t (rowsKeep_b (by have := HBl0.out.size; simp; omega) (by simp)) (Below.refl _ _) (fun _ => rfl)
    (BackI r c g o nn d ms B ys e q w G N W0.heap.size)
    (fun _ _ _ => False)
    (backI_own r c g o nn d ms B ys e q w G N W0.heap.size _ (by have := HBl0.out.size; simp; omega))
    (fun _ _ _ _ _ hs _ _ => hs)
    hI0
    _ ?assign ?body ?done ?stop
  case assign =>
    intro l x W K hK
    unfold rowEnc
    gi_wp2
    exact hK
  case body =>
    rintro l pre x W ⟨⟨hrow, hxO, hx4, hx5, hxM⟩, hBl⟩ hlt
    have hc4 := hx4.cell
    have hc5 := hx5.cell
    have hcO := hxO.cell
    have Hrow := Lib.hid hrow; have HO := Lib.hid hxO; have HM := Lib.hid hxM; have HBl := Lib.hid hBl; have H4 := Lib.hid hx4; have H5 := Lib.hid hx5; have Hlt := Lib.hid hlt; clear hrow hxM hBl hx4 hx5 hlt hxO
    have hGG : G < W.heap.size := by
      obtain ⟨g6, d6, hv6, _, hg6⟩ := Hrow.out.form (by omega : 0 < c)
      simp only [Value.slice.injEq, Option.some.injEq, Addr.mk.injEq] at hv6
      rw [hv6.1.1]; exact hg6
    gi_wp2_with fail
    have hy1 : x.1 < ys.length := by rw [Hyl.out]; exact x.2
    have hsc := fun W' (k : Below W.heap.size W W') => mscale_any r c x.1 g o ms (nth ys x.1) q W' x.2 hc (Hms.out.trans Hnn.out) ((HA.out.below HBl.out).below k) WM.out (WY.out _ hy1)
    have hxr : (x.1 : Int) < r := by have := x.2; omega
    obtain ⟨b2, o2, hBa, p2⟩ := (HB.out.below HBl.out).num hy1
    subst hBa
    have hGl : G < N := by
      obtain ⟨g6, d6, hv6, _, hg6⟩ := Hown2.out.form (by omega : 0 < c)
      simp only [Value.slice.injEq, Option.some.injEq, Addr.mk.injEq] at hv6
      have := HN.out
      have h7 : G < w2.heap.size := by rw [hv6.1.1]; exact hg6
      omega
    have hGN : ¬ G = N := by omega
    have hG1 : ¬ G = w.heap.size + 1 := by have := HG.out; omega
    have hG2 : ¬ G = w.heap.size + 1 + 1 := by have := HG.out; omega
    have hGb : ¬ G = b2 := by
      obtain ⟨b3, o3, e3, p3⟩ := HB.out.num hy1
      have hb3 : b3 < w.heap.size := lt_of_cell p3
      simp only [Option.some.injEq, Addr.mk.injEq] at e3
      have := HG.out
      omega
    have Hsc := Lib.hid hsc; clear hsc hy1
    refine region_inRound (fun w' => w'.cell? ⟨N, 0, none⟩ = some (.slice (some ⟨G, 0, none⟩) c c) ∧ w'.cell? ⟨w.heap.size + 1, 0, none⟩ = some (.slice (some ⟨b2, o2, none⟩) r e) ∧ w'.cell? ⟨w.heap.size + 1 + 1, 0, none⟩ = some (.int .i64 q) ∧ w'.cell? ⟨b2, o2 + x.1, none⟩ = some (.int .i64 (nth ys x.1))) (by kernel_rfl) (by kernel_rfl) (by rintro ⟨_, _, h⟩; exact h) ?_
    have hSw : (fun w' : World => w'.cell? ⟨N, 0, none⟩ = some (.slice (some ⟨G, 0, none⟩) c c) ∧ w'.cell? ⟨w.heap.size + 1, 0, none⟩ = some (.slice (some ⟨b2, o2, none⟩) r e) ∧ w'.cell? ⟨w.heap.size + 1 + 1, 0, none⟩ = some (.int .i64 q) ∧ w'.cell? ⟨b2, o2 + x.1, none⟩ = some (.int .i64 (nth ys x.1))) W.drew := ⟨hcO, hc4, hc5, p2⟩
    clear hcO hc4 hc5 p2
    refine wpAnyH_take (i := 0) (v := ?_) rfl (by kernel_rfl) (by kernel_rfl) (by kernel_rfl) (fun _ _ _ h => h) (Or.inl ⟨by rfl, ?_⟩) hSw ?_
    rotate_left
    · intro w9 hS9; (try dsimp only at hS9); obtain ⟨s1, s2, s3, s4⟩ := hS9; go_simp; (try with_reducible rfl)
    simp only [List.getElem_toArray, List.getElem_cons_succ, List.getElem_cons_zero, Act.put, List.setIfInBounds_toArray, List.set_cons_zero, List.set_cons_succ]
    refine wpAnyH_take (i := 1) (v := ?_) rfl (by kernel_rfl) (by kernel_rfl) (by kernel_rfl) (fun _ _ _ h => h) (Or.inl ⟨by rfl, ?_⟩) hSw ?_
    rotate_left
    · intro w9 hS9; (try dsimp only at hS9); obtain ⟨s1, s2, s3, s4⟩ := hS9; go_simp; (try with_reducible rfl)
    simp only [List.getElem_toArray, List.getElem_cons_succ, List.getElem_cons_zero, Act.put, List.setIfInBounds_toArray, List.set_cons_zero, List.set_cons_succ]
    refine wpAnyH_take (i := 2) (v := ?_) rfl (by kernel_rfl) (by kernel_rfl) (by kernel_rfl) (fun _ _ _ h => h) (Or.inl ⟨by rfl, ?_⟩) hSw ?_
    rotate_left
    · intro w9 hS9; (try dsimp only at hS9); obtain ⟨s1, s2, s3, s4⟩ := hS9; go_simp; (try with_reducible rfl)
    simp only [List.getElem_toArray, List.getElem_cons_succ, List.getElem_cons_zero, Act.put, List.setIfInBounds_toArray, List.set_cons_zero, List.set_cons_succ]
    refine wpAnyH_take (i := 3) (v := ?_) rfl (by kernel_rfl) (by kernel_rfl) (by kernel_rfl) (fun _ _ _ h => h) (Or.inl ⟨by rfl, ?_⟩) hSw ?_
    rotate_left
    · intro w9 hS9; (try dsimp only at hS9); obtain ⟨s1, s2, s3, s4⟩ := hS9; go_simp; (try with_reducible rfl)
    simp only [List.getElem_toArray, List.getElem_cons_succ, List.getElem_cons_zero, Act.put, List.setIfInBounds_toArray, List.set_cons_zero, List.set_cons_succ]
    refine wpAnyH_take (i := 4) (v := ?_) rfl (by kernel_rfl) (by kernel_rfl) (by kernel_rfl) (fun _ _ _ h => h) (Or.inl ⟨by rfl, ?_⟩) hSw ?_
    rotate_left
    · intro w9 hS9; (try dsimp only at hS9); obtain ⟨s1, s2, s3, s4⟩ := hS9; go_simp; (try with_reducible rfl)
    simp only [List.getElem_toArray, List.getElem_cons_succ, List.getElem_cons_zero, Act.put, List.setIfInBounds_toArray, List.set_cons_zero, List.set_cons_succ]
    refine wpAnyH_take (i := 5) (v := ?_) rfl (by kernel_rfl) (by kernel_rfl) (by kernel_rfl) (fun _ _ _ h => h) (Or.inl ⟨by rfl, ?_⟩) hSw ?_
    rotate_left
    · intro w9 hS9; (try dsimp only at hS9); obtain ⟨s1, s2, s3, s4⟩ := hS9; go_simp; (try with_reducible rfl)
    simp only [List.getElem_toArray, List.getElem_cons_succ, List.getElem_cons_zero, Act.put, List.setIfInBounds_toArray, List.set_cons_zero, List.set_cons_succ]
    refine wpAnyH_take (i := 6) (v := ?_) rfl (by kernel_rfl) (by kernel_rfl) (by kernel_rfl) (fun _ _ _ h => h) (Or.inl ⟨by rfl, ?_⟩) hSw ?_
    rotate_left
    · intro w9 hS9; (try dsimp only at hS9); obtain ⟨s1, s2, s3, s4⟩ := hS9; go_simp; (try with_reducible rfl)
    simp only [List.getElem_toArray, List.getElem_cons_succ, List.getElem_cons_zero, Act.put, List.setIfInBounds_toArray, List.set_cons_zero, List.set_cons_succ]
    refine wpAnyH_ready (rs := [7]) (by kernel_rfl) (by simp) ?_
    refine AllReadyH.cons rfl (fun K hK => ?_) AllReadyH.nil
    simp only [List.getElem_toArray, List.getElem_cons_succ, List.getElem_cons_zero]
    go_simp
    refine (Hsc.out _ ?_).mono ?_
    · exact (Below.refl _ W).drew
    rintro e w3 ⟨A', c', rfl, hown3, hb3⟩
    dsimp only
    refine hK.out _ _ ?_ (fun hS9 => ?_)
    · exact ⟨cell_below hb3 hSw.1, cell_below hb3 hSw.2.1, cell_below hb3 hSw.2.2.1, cell_below hb3 hSw.2.2.2⟩
    clear hK K
    have hr3 := own_below (w := W.drew) Hrow.out hb3
    have hlt3 : ∀ a b, (some ⟨G, 0, none⟩ : Option Addr) = some a → A' = some b → a.block ≠ b.block := fun a b ha hb => by
      cases ha; subst hb
      have h1 := (hown3.form (by omega : 0 < c))
      obtain ⟨g5, d5, hv5, hg5, _⟩ := h1
      simp only [Value.slice.injEq, Option.some.injEq] at hv5
      rw [hv5.1]
      have h2 := Hrow.out.form (by omega : 0 < c)
      obtain ⟨g6, d6, hv6, _, hg6⟩ := h2
      simp only [Value.slice.injEq, Option.some.injEq, Addr.mk.injEq] at hv6
      have h7 : G < W.heap.size := by rw [hv6.1.1]; exact hg6
      show G ≠ g5
      have h8 : W.heap.size ≤ g5 := hg5
      omega
    have hadd := add_any w.heap.size (some ⟨G, 0, none⟩) A' _ _ c c c' w3 hr3 (Rd.own hown3) (by unfold scaleL; rw [upTo_len, mrow_len]) (by omega) hlt3
    refine wpAnyH_ready (rs := [8]) (by kernel_rfl) (by simp) ?_
    refine AllReadyH.cons rfl (fun K hK => ?_) AllReadyH.nil
    simp only [List.getElem_toArray, List.getElem_cons_succ, List.getElem_cons_zero, Act.put, List.setIfInBounds_toArray, List.set_cons_zero, List.set_cons_succ]
    have Hadd := Lib.hid hadd; have Hr3 := Lib.hid hr3; have Hown3 := Lib.hid hown3; have Hb3 := Lib.hid hb3; clear hadd hr3 hown3 hb3 hlt3
    go_simp
    refine Hadd.out.mono ?_
    rintro e w4 ⟨rfl, hown4, hk4⟩
    dsimp only
    refine hK.out _ _ ?_ (fun hS8 => ?_)
    · exact ⟨hk4.cell hS9.1 (by simp [Value.ownBlock]; exact hGN), hk4.cell hS9.2.1 (by simp [Value.ownBlock]; exact hG1), hk4.cell hS9.2.2.1 (by simp [Value.ownBlock]; exact hG2), hk4.cell hS9.2.2.2 (by simp [Value.ownBlock]; exact hGb)⟩
    refine wpAnyH_done (by kernel_rfl) ?_ _
    have hKW : Keep (fun i => (Value.slice (some ⟨G, 0, none⟩) c c).ownBlock = some i) W w4 := ((Keep.refl _ W).drew.trans (Keep.below Hb3.out)).trans hk4
    have hGw : w.heap.size ≤ G := by have := HG.out; omega
    have hbW : Below w.heap.size W w4 := hKW.toBelow HBl.out.size (fun k hk => by simp [Value.ownBlock] at hk; omega)
    have hGM : ¬ G = W0.heap.size := by have := HS0.out; omega
    have hM4 := (hKW.block _ (lt_of_block HM.out) (by simp [Value.ownBlock]; exact hGM)).trans HM.out
    refine ⟨(others_keep hKW fun k o hk ho => ?_).from _, ⟨hbW, fun _ => hM4.trans HM.out.symm⟩, ⟨⟨?_, ?_, ?_, ?_, hM4⟩, HBl.out.trans hbW⟩⟩
    · simp only [Value.ownBlock, Option.some.injEq] at hk
      subst hk
      exact own_cells Hrow.out ho
    · rw [List.foldl_append]; exact hown4
    · exact (hKW.block _ (lt_of_block HO.out) (by simp [Value.ownBlock]; exact hGN)).trans HO.out
    · exact (hKW.block _ (lt_of_block H4.out) (by simp [Value.ownBlock]; exact hG1)).trans H4.out
    · exact (hKW.block _ (lt_of_block H5.out) (by simp [Value.ownBlock]; exact hG2)).trans H5.out
  case done =>
    rintro D zs W hD rfl ⟨⟨hrow, hxO, hx4, hx5, hxM⟩, hBl⟩ hK
    have hc := hxO.cell
    gi_wp2
    refine ⟨by simp, .inl ⟨_, _, rfl, run_takeDeferred hK, ?_⟩⟩
    rw [back_fin] at hrow
    refine ⟨.tuple #[.slice (some ⟨G, 0, none⟩) c c, .bool true], by simp [results, Try.results34, go_sem], _, _, rfl, ownsRow_putObj hrow _ hK rfl, hBl.trans (belowK_b (w := w) (Nat.le_refl _) W D _ _ (by have := HBl0.out.size; simp at hD; omega) hK rfl rfl)⟩
  case stop =>
    rintro D c pre W _ _ h _
    exact h.elim
end Go.Proofs.Ytfiojofcafjfeaa
