/- The reference's states: Same, Start. The walk of the reference's Sum. The places of a network's parameters, and the gradient place by place, in plain lists. The walk of sakiaref08.Places. No condition. -/
import Derived.Test.YtfiojofcafjfeaaGreatJ14
import Derived.Test.YtfiojofcafjfeaaGreatJ21
import Derived.Test.YtfiojofcafjfeaaGreatJ11
import Derived.Test.YtfiojofcafjfeaaGreatProg
import Derived.IntWalk
set_option linter.unusedSimpArgs false
set_option linter.unusedVariables false
namespace Go.Proofs.YtfiojofcafjfeaaGreat
open Go.RowKit

set_option maxRecDepth 100000 in
theorem stsame_any (A1 A2 B1 B2 : Option Addr) (p m p' m' : List Int) (c1 c2 d1 d2 : Nat) (w : World) (h1 : NumsRd w A1 p c1) (h2 : NumsRd w A2 m c2) (h3 : NumsRd w B1 p' d1) (h4 : NumsRd w B2 m' d2) :
    Calls Tryz.prog 27 #[.agg #[.slice A1 p.length c1, .slice A2 m.length c2], .agg #[.slice B1 p'.length d1, .slice B2 m'.length d2]] w fun e w' => e = .returned (.bool (decide (p = p') && decide (m = m'))) ∧ Below w.heap.size w w' := by
  have hs1 := fun w' (q : Below w.heap.size w w') => same_any A1 B1 p p' c1 d1 w' (h1.hr.below q) (h3.hr.below q) h1.hl h3.hl
  have hs2 := fun w' (q : Below w.heap.size w w') => same_any A2 B2 m m' c2 d2 w' (h2.hr.below q) (h4.hr.below q) h2.hl h4.hl
  obtain ⟨b1, hb1⟩ : ∃ b1, decide (p = p') = b1 := ⟨_, rfl⟩
  obtain ⟨b2, hb2⟩ : ∃ b2, decide (m = m') = b2 := ⟨_, rfl⟩
  obtain ⟨n1, hn1⟩ : ∃ n, p.length = n := ⟨_, rfl⟩
  obtain ⟨n2, hn2⟩ : ∃ n, m.length = n := ⟨_, rfl⟩
  obtain ⟨m1, hm1⟩ : ∃ n, p'.length = n := ⟨_, rfl⟩
  obtain ⟨m2, hm2⟩ : ∃ n, m'.length = n := ⟨_, rfl⟩
  rw [hb1, hn1, hm1] at hs1
  rw [hb2, hn2, hm2] at hs2
  rw [hb1, hb2, hn1, hn2, hm1, hm2]
  have Hs1 := Lib.hid hs1; have Hs2 := Lib.hid hs2
  clear hs1 hs2 hb1 hb2 hn1 hn2 hm1 hm2 h1 h2 h3 h4
  go_enter Tryz.func27, Tryz.ntmps27
  go_wp2_with fail
  have hz := (Below.heap_alloc (w.alloc (.cells #[.slice A1 n1 c1, .slice A2 n2 c2] 68)) (.cells #[.slice B1 m1 d1, .slice B2 m2 d2] 68) w.heap.size (by simp)).trans (heap_alloc_new w _)
  have hy := heap_alloc_new (w.alloc (.cells #[.slice A1 n1 c1, .slice A2 n2 c2] 68)) (.cells #[.slice B1 m1 d1, .slice B2 m2 d2] 68)
  rw [show (w.alloc (.cells #[.slice A1 n1 c1, .slice A2 n2 c2] 68)).heap.size = w.heap.size + 1 by simp] at hy
  have hB : Below w.heap.size w ((w.alloc (.cells #[.slice A1 n1 c1, .slice A2 n2 c2] 68)).alloc (.cells #[.slice B1 m1 d1, .slice B2 m2 d2] 68)) := ((Below.refl _ w).alloc (Nat.le_refl _) _).alloc (by simp) _
  obtain ⟨W0, hW0⟩ : ∃ W0, W0 = (w.alloc (.cells #[.slice A1 n1 c1, .slice A2 n2 c2] 68)).alloc (.cells #[.slice B1 m1 d1, .slice B2 m2 d2] 68) := ⟨_, rfl⟩
  rw [← hW0] at hz hy hB ⊢
  clear hW0
  refine (Hs1.out _ hB).mono ?_
  rintro e w1 ⟨rfl, d, rfl⟩
  have hB1 := below_drewN hB d
  have hz1 : (W0.drewN d).heap[w.heap.size]? = some (.cells #[.slice A1 n1 c1, .slice A2 n2 c2] 68 (0, 0)) := hz
  have hy1 : (W0.drewN d).heap[w.heap.size + 1]? = some (.cells #[.slice B1 m1 d1, .slice B2 m2 d2] 68 (0, 0)) := hy
  clear hz hy hB
  generalize W0.drewN d = W1 at hz1 hy1 hB1 ⊢
  have z0 := cell_of_row W1 _ 0 _ _ _ hz1
  have z1 := cell_of_row W1 _ 1 _ _ _ hz1
  have zf := fun j => frozen_of_row W1 _ j _ _ hz1
  have y0 := cell_of_row W1 _ 0 _ _ _ hy1
  have y1 := cell_of_row W1 _ 1 _ _ _ hy1
  have yf := fun j => frozen_of_row W1 _ j _ _ hy1
  have HB1 := Lib.hid hB1
  clear hz1 hy1 hB1
  rcases bool_ft b1 with rfl | rfl
  · go_wp2_with fail
    go_ret
    exact ⟨rfl, HB1.out⟩
  go_wp2_with fail
  refine (Hs2.out _ HB1.out).mono ?_
  rintro e w2 ⟨rfl, d2, rfl⟩
  go_wp2_with fail
  go_ret
  exact ⟨by simp, below_drewN HB1.out d2⟩

theorem et_ri64s : ElemT Tryz.prog 26 2 (.int .i64 0) 1 8 := ⟨Tryz.underlying26, info_parts (by kernel_rfl), rfl, by decide⟩
set_option maxRecDepth 100000 in
theorem rstart_any (A : Option Addr) (n c : Nat) (w : World) (hn : n ≤ 1048576) :
    Calls Tryz.prog 34 #[.slice A n c] w fun e w' => ∃ A2, e = .returned (.agg #[.slice A n c, .slice A2 n n]) ∧ w'.ownsRow w.heap.size 2 1 (.slice A2 n n) n (nums .i64 (List.replicate n 0)) ∧ Below w.heap.size w w' := by
  have hmk := fun w' => run_mk et_ri64s w' rfl n (by omega) (by unfold maxLen; omega)
  simp only [nums_rep] at hmk
  have Hmk := Lib.hid hmk
  clear hmk
  have hz := heap_alloc_new w (.cells #[.slice none 0 0, .slice none 0 0] 68)
  have hB0 : Below w.heap.size w (w.alloc (.cells #[.slice none 0 0, .slice none 0 0] 68)) := (Below.refl _ w).alloc (Nat.le_refl _) _
  have hl0 := lt_of_block hz
  obtain ⟨V, hrun, ho2, hb2⟩ := Hmk.out (w.alloc (.cells #[.slice none 0 0, .slice none 0 0] 68))
  rw [show (w.alloc (.cells #[.slice none 0 0, .slice none 0 0] 68)).heap.size = w.heap.size + 1 by simp] at hrun ho2
  have HZ2 := Lib.hid ((hb2.block w.heap.size hl0).trans hz)
  have HO2 := Lib.hid (own_base (base' := w.heap.size) ho2 (by omega)); have HB2 := Lib.hid (hB0.trans (hb2.mono (by omega)))
  have hz2 := HZ2.out
  have z0 := cell_of_row V _ 0 _ _ _ hz2
  have z1 := cell_of_row V _ 1 _ _ _ hz2
  have zf := fun j => frozen_of_row V _ j _ _ hz2
  have hl2 := lt_of_block hz2
  clear hz hB0 ho2 hb2 hz2 hl0
  go_enter Tryz.func34, Tryz.ntmps34
  go_wp2_with fail
  have e1 := heap_setCell_same V w.heap.size 0 _ _ (.slice A n c) HZ2.out
  have e2 := heap_setCell_same _ w.heap.size 1 _ _ (.slice (some ⟨w.heap.size + 1, 0, none⟩) n n) e1
  have e3 : ((V.setCell ⟨w.heap.size, 0, none⟩ (.slice A n c)).setCell ⟨w.heap.size, 1, none⟩ (.slice (some ⟨w.heap.size + 1, 0, none⟩) n n)).heap[w.heap.size]? = some (.cells #[.slice A n c, .slice (some ⟨w.heap.size + 1, 0, none⟩) n n] 68 (0, 0)) := by simpa using e2
  have hk : Keep (fun j => j = w.heap.size) V ((V.setCell ⟨w.heap.size, 0, none⟩ (.slice A n c)).setCell ⟨w.heap.size, 1, none⟩ (.slice (some ⟨w.heap.size + 1, 0, none⟩) n n)) := Keep.setCell (S := fun j => j = w.heap.size) (Keep.setCell (S := fun j => j = w.heap.size) (Keep.refl _ _) _ (.inr rfl) _) _ (.inr rfl) _
  obtain ⟨W9, hW9⟩ : ∃ W9, W9 = (V.setCell ⟨w.heap.size, 0, none⟩ (.slice A n c)).setCell ⟨w.heap.size, 1, none⟩ (.slice (some ⟨w.heap.size + 1, 0, none⟩) n n) := ⟨_, rfl⟩
  rw [← hW9] at e3 hk ⊢
  have r0 := cell_of_row W9 _ 0 _ _ _ e3
  have r1 := cell_of_row W9 _ 1 _ _ _ e3
  have rf := fun j => frozen_of_row W9 _ j _ _ e3
  have hm9 := hk.own HO2.out (fun j hj e => block_notrow HZ2.out (by decide) HO2.out (by rw [hj, e]))
  exact bodyPost_ret (v := .agg #[.slice A n c, .slice (some ⟨w.heap.size + 1, 0, none⟩) n n]) (by simp [results, Tryz.results34, go_sem, r0, r1]) rfl ⟨_, rfl, hm9, HB2.out.trans (hk.toBelow HB2.out.size (fun j hj => by omega))⟩
end Go.Proofs.YtfiojofcafjfeaaGreat
namespace Go.Proofs.YtfiojofcafjfeaaGreat
open Go.RowKit

/-- The sum of vectors of a length. -/
def sumR (n : Nat) (ls : List (List Int)) : List Int := ls.foldl addL (List.replicate n 0)
theorem sumR_snoc (n : Nat) (ls : List (List Int)) (x : List Int) : sumR n (ls ++ [x]) = addL (sumR n ls) x := by simp [sumR]
theorem sumR_len (n : Nat) (ls : List (List Int)) : (sumR n ls).length = n := by
  have : ∀ (l : List (List Int)) (a : List Int), (l.foldl addL a).length = a.length := by
    intro l
    induction l with
    | nil => intro a; rfl
    | cons x l ih => intro a; rw [List.foldl_cons, ih, addL_len]
  unfold sumR; rw [this]; simp
def RSumIs (ls : List (List Int)) (n : Nat) (w : World) (e : Ending) (w' : World) : Prop := ∃ v ok, e = .returned (.tuple #[v, .bool ok]) ∧ Below w.heap.size w w' ∧ ((∀ (j : Nat) (x : List Int), ls[j]? = some x → x.length = n) → ok = true ∧ w'.ownsRow w.heap.size 2 1 v n (nums .i64 (sumR n ls)))
set_option maxRecDepth 100000 in
set_option maxHeartbeats 1000000 in
theorem rsumv_any (V : Option Addr) (ls : List (List Int)) (c n : Nat) (x0 : List Int) (w : World) (hV : SlRd rVec0 1 w V ls) (hl : ls.length ≤ 17592186043904) (h0 : ls[0]? = some x0) (hn : x0.length = n) :
    Calls Tryz.prog 21 #[.slice V ls.length c] w (RSumIs ls n w) := by
  obtain ⟨N, hN⟩ : ∃ N, ls.length = N := ⟨_, rfl⟩
  have hN0 : 0 < N := by rw [← hN]; exact (List.getElem?_eq_some_iff.1 h0).1
  obtain ⟨b, o, A0, c0, rfl, hb, p0, _, hxl⟩ := rVec0_cell hV h0
  rw [hN] at hl ⊢
  rw [hn, Nat.add_zero] at p0
  rw [hn] at hxl
  have hN1 : ¬ (N = 0) := by omega
  have hmk := fun w' => run_mk et_ri64s w' rfl n (by omega) (by unfold maxLen; omega)
  simp only [nums_rep] at hmk
  have Hmk := Lib.hid hmk; have HV := Lib.hid hV; have HN := Lib.hid hN
  clear hmk hV hN h0 hn
  have hN0i : (0 : Int) < N := by omega
  have hN9 : ((N : Int) == 0) = false := by simp; omega
  go_enter Tryz.func21, Tryz.ntmps21
  obtain ⟨W2, hrun, ho2, hb2⟩ := Hmk.out w
  go_wp2_with fail
  have HO2 := Lib.hid ho2; have HB2 := Lib.hid hb2
  clear hrun ho2 hb2 p0 Hmk
  go_loopw [5] (fun x wr => ∃ k : Nat, k ≤ N ∧ x = .int .i64 k ∧ wr.ownsRow w.heap.size 2 1 (.slice (some ⟨w.heap.size, 0, none⟩) n n) n (nums .i64 (sumR n (ls.take k))) ∧ Hid (∀ (j : Nat) (x : List Int), j < k → ls[j]? = some x → x.length = n) ∧ Below w.heap.size w wr) (fun x _ => N - (intOf x).toNat)
  case atStart => exact ⟨0, Nat.zero_le _, rfl, HO2.out, Lib.hid fun j x hj => by omega, HB2.out⟩
  case round =>
    obtain ⟨W1, rfl⟩ : ∃ W1 : World, W1 = wr := ⟨_, rfl⟩
    obtain ⟨k, hk, rfl, hown, Hall, hbw⟩ := hrel
    by_cases hlt : k < N
    · obtain ⟨x, hx⟩ : ∃ x, ls[k]? = some x := ⟨_, List.getElem?_eq_getElem (by rw [HN.out]; exact hlt)⟩
      have hlti : (k : Int) < N := by omega
      have g1 : SlRd rVec0 1 W1 (some ⟨b, o, none⟩) ls := HV.out.below stays_vec0 hbw
      obtain ⟨b', o', A, cA, e1, hb', p, hA, hxl'⟩ := rVec0_cell g1 hx
      injection e1 with e1; injection e1 with e1 e2 _; subst e1; subst e2
      have HX := Lib.hid hx; have HO := Lib.hid hown; have HB := Lib.hid hbw; have HA := Lib.hid hA; have P := Lib.hid p
      obtain ⟨m, hm⟩ : ∃ m, x.length = m := ⟨_, rfl⟩
      have Hm := Lib.hid hm
      rw [hm] at p hxl'
      clear hx hown hbw hA hm g1
      by_cases hmn : m = n
      · subst hmn
        go_wp2_with fail
        clear p
        go_loopw [6] (fun y wr => ∃ t : Nat, t ≤ m ∧ y = .int .i64 t ∧ wr.ownsRow w.heap.size 2 1 (.slice (some ⟨w.heap.size, 0, none⟩) m m) m (nums .i64 (mixed (sumR m (ls.take k)) t (fun t => wrap64 (nth (sumR m (ls.take k)) t + nth x t)))) ∧ Keep (fun i => i = w.heap.size) W1 wr) (fun y _ => m - (intOf y).toNat)
        case atStart => exact ⟨0, Nat.zero_le _, rfl, by rw [mixed_zero]; exact HO.out, Keep.refl _ _⟩
        case round =>
          obtain ⟨t, ht, rfl, hown, hK⟩ := hrel
          by_cases hlt2 : t < m
          · have hlti2 : (t : Int) < m := by omega
            have hkx : t < (sumR m (ls.take k)).length := by rw [sumR_len]; exact hlt2
            have p1 := own_num hown hlt2
            rw [mixed_nth _ hkx, if_neg (by omega)] at p1
            have f1 := hown.frozenAt t
            obtain ⟨b2, o2, rfl, p3⟩ := HA.out.num (show t < x.length by rw [Hm.out]; exact hlt2)
            have hbs : b < w.heap.size := hb
            have p2 : wr.cell? ⟨b, o + k, none⟩ = some (.slice (some ⟨b2, o2, none⟩) m cA) := hK.cell (by rw [P.out, Hm.out]) (by dsimp only; omega)
            have hA2 : b2 < w.heap.size := by
              obtain ⟨_, _, A9, c9, e9, _, q9, r9, _⟩ := rVec0_cell HV.out HX.out
              injection e9 with e9; injection e9 with e9 e8 _; subst e9; subst e8
              have := (HB.out.cell (p := ⟨b, o + k, none⟩) hb).trans q9
              rw [P.out] at this
              injection this with this
              simp only [Value.slice.injEq] at this
              rw [← this.1] at r9
              obtain ⟨b8, o8, e8, q8⟩ := r9.num (show t < x.length by rw [Hm.out]; exact hlt2)
              injection e8 with e8; injection e8 with e8 _ _; subst e8
              exact lt_of_cell q8
            have p4 : wr.cell? ⟨b2, o2 + t, none⟩ = some (.int .i64 (nth x t)) := hK.cell p3 (by dsimp only; omega)
            have hst := mixed_set (l := sumR m (ls.take k)) (k := t) (fun t => wrap64 (nth (sumR m (ls.take k)) t + nth x t)) hkx
            have HK := Lib.hid hK; have HO2 := Lib.hid hown; have Hst := Lib.hid hst
            clear hK hown hst hkx p3
            go_wp2_with fail
            go_region
            all_goals go_wp2_with fail
            all_goals
              go_roundw
              case rel =>
                refine ⟨t + 1, by omega, by go_num, ?_, ?_⟩
                · rw [← Hst.out]; exact own_put (own_drewN HO2.out 1) t _
                · exact Keep.setCell (HK.out.drewN 1) ⟨w.heap.size, t, none⟩ (.inr rfl) _
              case measure => simp [intOf]; omega
          · obtain rfl : m = t := by omega
            have HK := Lib.hid hK; have HO2 := Lib.hid hown; clear hK hown
            go_wp2_with fail
            go_roundw
            case rel =>
              refine ⟨k + 1, by omega, by go_num, ?_, Lib.hid fun j y hj hy => ?_, HB.out.trans (HK.out.toBelow (by have := HB.out.size; omega) (fun j hj => by omega))⟩
              · rw [List.take_add_one, HX.out, Option.toList_some, sumR_snoc]
                have e9 := HO2.out
                have e8 := mixed_all (sumR m (ls.take k)) (fun t => wrap64 (nth (sumR m (ls.take k)) t + nth x t))
                rw [sumR_len] at e8
                unfold addL
                rw [sumR_len, ← e8]
                exact e9
              · rcases Nat.lt_or_ge j k with h | h
                · exact Hall.out j y h hy
                · obtain rfl : j = k := by omega
                  rw [HX.out] at hy; injection hy with hy; rw [← hy]; exact Hm.out
            case measure => simp [intOf]; omega
      · have hmi : ((m : Int) != (n : Int)) = true := by rw [bne_iff_ne]; omega
        go_wp2_with fail
        go_ret2
        refine ⟨_, _, rfl, HB.out, fun h => absurd ?_ hmn⟩
        rw [← Hm.out]; exact h k x HX.out
    · obtain rfl : k = N := by omega
      have HO := Lib.hid hown; have HB := Lib.hid hbw
      clear hown hbw
      go_wp2_with fail
      go_ret2
      refine ⟨_, _, rfl, HB.out, fun h => ⟨rfl, ?_⟩⟩
      have := HO.out
      rwa [← HN.out, List.take_length] at this
end Go.Proofs.YtfiojofcafjfeaaGreat
namespace Go.Proofs.YtfiojofcafjfeaaGreat
open Go.RowKit

/-- A place: layer, row, column (or -1). -/
abbrev Pl := Nat × Nat × Int
def plW (k c m : Nat) : List Pl := (List.range m).map fun i => (k, i / c, ((i % c : Nat) : Int))
def plB (k m : Nat) : List Pl := (List.range m).map fun i => (k, i, -1)
def plK (sz : List Int) (k : Nat) : List Pl := plW k (szN sz k) (szN sz (k + 1) * szN sz k) ++ plB k (szN sz (k + 1))
def plL (sz : List Int) (n : Nat) : List Pl := (List.range n).flatMap (plK sz)
theorem plW_len (k c m : Nat) : (plW k c m).length = m := by simp [plW]
theorem plB_len (k m : Nat) : (plB k m).length = m := by simp [plB]
theorem plL_succ (sz : List Int) (n : Nat) : plL sz (n + 1) = plL sz n ++ plK sz n := by simp [plL, List.range_succ, List.flatMap_append]
theorem plL_len (sz : List Int) (n : Nat) : (plL sz n).length = cntN sz n := by
  induction n with
  | zero => rfl
  | succ n ih =>
    have := midN_eq sz n
    unfold midN at this
    rw [plL_succ, List.length_append, ih]
    unfold plK
    rw [List.length_append, plW_len, plB_len]
    omega
/-- The cells of places. -/
def plV (l : List Pl) : List Value := l.flatMap fun p => [.int .i64 (p.1 : Int), .int .i64 (p.2.1 : Int), .int .i64 p.2.2]
theorem plV_append (a b : List Pl) : plV (a ++ b) = plV a ++ plV b := by simp [plV, List.flatMap_append]
theorem plV_one (p : Pl) : plV [p] = [.int .i64 (p.1 : Int), .int .i64 (p.2.1 : Int), .int .i64 p.2.2] := rfl
theorem plV_len (l : List Pl) : (plV l).length = l.length * 3 := by
  induction l with
  | nil => rfl
  | cons a l ih => show ([_, _, _] ++ plV l).length = _; rw [List.length_append, ih, List.length_cons]; simp; omega
theorem plV_at : ∀ (l : List Pl) (i : Nat) (p : Pl), l[i]? = some p → (plV l)[i * 3]? = some (.int .i64 (p.1 : Int)) ∧ (plV l)[i * 3 + 1]? = some (.int .i64 (p.2.1 : Int)) ∧ (plV l)[i * 3 + 2]? = some (.int .i64 p.2.2) := by
  intro l
  induction l with
  | nil => intro i p h; simp at h
  | cons a l ih =>
    intro i p h
    have hv : plV (a :: l) = [.int .i64 (a.1 : Int), .int .i64 (a.2.1 : Int), .int .i64 a.2.2] ++ plV l := rfl
    rw [hv]
    cases i with
    | zero =>
      simp at h
      subst h
      exact ⟨rfl, rfl, rfl⟩
    | succ i =>
      have := ih i p (by simpa using h)
      rw [List.getElem?_append_right (by simp; omega), List.getElem?_append_right (by simp; omega), List.getElem?_append_right (by simp; omega)]
      simp only [List.length_cons, List.length_nil]
      rw [show (i + 1) * 3 - (0 + 1 + 1 + 1) = i * 3 by omega, show (i + 1) * 3 + 1 - (0 + 1 + 1 + 1) = i * 3 + 1 by omega, show (i + 1) * 3 + 2 - (0 + 1 + 1 + 1) = i * 3 + 2 by omega]
      exact this
theorem plW_succ (k c r j : Nat) (hj : j < c) : plW k c (r * c + j + 1) = plW k c (r * c + j) ++ [(k, r, (j : Int))] := by
  unfold plW
  rw [List.range_succ, List.map_append]
  have h1 : (r * c + j) / c = r := by rw [Nat.add_comm, Nat.add_mul_div_right _ _ (by omega), Nat.div_eq_of_lt hj, Nat.zero_add]
  have h2 : (r * c + j) % c = j := by rw [Nat.add_comm, Nat.add_mul_mod_self_right, Nat.mod_eq_of_lt hj]
  rw [List.map_singleton, h1, h2]
theorem plB_succ (k r : Nat) : plB k (r + 1) = plB k r ++ [(k, r, -1)] := by simp [plB, List.range_succ]

/-- The gradient at a place. -/
def gAt (sz ps : List Int) (q : Int) (x y : List Int) (p : Pl) : Int :=
  if 0 ≤ p.2.2 then mulQ (nth (errD sz ps q x y (sz.length - 2 - p.1)) p.2.1) (nth (valL sz ps q x p.1) p.2.2.toNat) q else nth (errD sz ps q x y (sz.length - 2 - p.1)) p.2.1
theorem map_nth (l : List Int) (n : Nat) (h : l.length = n) : (List.range n).map (nth l) = l := (eq_upTo h fun k _ => rfl).symm
theorem block_eq {sz ps : List Int} {q : Int} {x y : List Int} (hx : x.length = szN sz 0) {k : Nat} (hk : k + 2 ≤ sz.length) :
    outerL (szN sz (k + 1)) (szN sz k) (errD sz ps q x y (sz.length - 2 - k)) (valL sz ps q x k) q ++ errD sz ps q x y (sz.length - 2 - k) = (plK sz k).map (gAt sz ps q x y) := by
  unfold plK
  rw [List.map_append]
  congr 1
  · unfold outerL upTo plW
    rw [List.map_map]
    refine List.map_congr_left fun i _ => ?_
    unfold outV gAt
    show _ = if 0 ≤ ((i % szN sz k : Nat) : Int) then mulQ (nth (errD sz ps q x y (sz.length - 2 - k)) (i / szN sz k)) (nth (valL sz ps q x k) ((i % szN sz k : Nat) : Int).toNat) q else nth (errD sz ps q x y (sz.length - 2 - k)) (i / szN sz k)
    rw [if_pos (Int.natCast_nonneg _), Int.toNat_natCast]
  · unfold plB
    rw [List.map_map]
    have hl := errD_len (sz := sz) (ps := ps) (q := q) (x := x) (y := y) hx (sz.length - 2 - k)
    rw [show sz.length - 1 - (sz.length - 2 - k) = k + 1 by omega] at hl
    have := map_nth _ _ hl
    conv => lhs; rw [← this]
    refine List.map_congr_left fun i _ => ?_
    unfold gAt
    simp
theorem gradT_eq {sz ps : List Int} {q : Int} {x y : List Int} (hx : x.length = szN sz 0) : ∀ j, j + 1 ≤ sz.length → gradT sz ps q x y j = (((List.range (sz.length - 1)).drop (sz.length - 1 - j)).flatMap (plK sz)).map (gAt sz ps q x y) := by
  intro j
  induction j with
  | zero => intro _; rw [Nat.sub_zero, List.drop_eq_nil_of_le (by simp)]; rfl
  | succ j ih =>
    intro hj
    have hd : (List.range (sz.length - 1)).drop (sz.length - 1 - (j + 1)) = (sz.length - 2 - j) :: (List.range (sz.length - 1)).drop (sz.length - 1 - j) := by
      rw [show sz.length - 1 - (j + 1) = sz.length - 2 - j by omega]
      rw [List.drop_eq_getElem_cons (by simp; omega), List.getElem_range]
      congr 2
      omega
    rw [hd, List.flatMap_cons, List.map_append, ← ih (by omega), gradT, ← List.append_assoc]
    congr 1
    have := block_eq (sz := sz) (ps := ps) (q := q) (x := x) (y := y) hx (k := sz.length - 2 - j) (by omega)
    rw [show sz.length - 2 - j + 1 = sz.length - 1 - j by omega, show sz.length - 2 - (sz.length - 2 - j) = j by omega] at this
    exact this
theorem gradL_eq {sz ps : List Int} {q : Int} {x y : List Int} (hx : x.length = szN sz 0) (hl : 1 ≤ sz.length) : gradL sz ps q x y = (plL sz (sz.length - 1)).map (gAt sz ps q x y) := by
  unfold gradL
  rw [gradT_eq hx _ (by omega), Nat.sub_self, List.drop_zero]
  rfl
theorem gradL_len {sz ps : List Int} {q : Int} {x y : List Int} (hx : x.length = szN sz 0) (hl : 1 ≤ sz.length) : (gradL sz ps q x y).length = cntN sz (sz.length - 1) := by
  rw [gradL_eq hx hl, List.length_map, plL_len]
/-- What a place may be. -/
theorem plL_mem {sz : List Int} {n : Nat} {p : Pl} (h : p ∈ plL sz n) : p.1 < n ∧ p.2.1 < szN sz (p.1 + 1) ∧ (p.2.2 = -1 ∨ (0 ≤ p.2.2 ∧ p.2.2.toNat < szN sz p.1)) := by
  unfold plL at h
  obtain ⟨k, hk, h⟩ := List.mem_flatMap.1 h
  have hk := List.mem_range.1 hk
  unfold plK at h
  rcases List.mem_append.1 h with h | h
  · unfold plW at h
    obtain ⟨i, hi, rfl⟩ := List.mem_map.1 h
    have hi := List.mem_range.1 hi
    have hc : 0 < szN sz k := by
      rcases Nat.eq_zero_or_pos (szN sz k) with h0 | h0
      · rw [h0, Nat.mul_zero] at hi; omega
      · exact h0
    exact ⟨hk, Nat.div_lt_of_lt_mul (by rw [Nat.mul_comm]; exact hi), .inr ⟨by dsimp only; omega, by dsimp only; rw [Int.toNat_natCast]; exact Nat.mod_lt _ hc⟩⟩
  · unfold plB at h
    obtain ⟨i, hi, rfl⟩ := List.mem_map.1 h
    exact ⟨hk, List.mem_range.1 hi, .inl rfl⟩
end Go.Proofs.YtfiojofcafjfeaaGreat
namespace Go.Proofs.YtfiojofcafjfeaaGreat
open Go.RowKit

theorem et_pls : ElemT Tryz.prog 156 161 (.agg #[.int .i64 0, .int .i64 0, .int .i64 0]) 3 24 := ⟨Tryz.underlying156, info_parts (by kernel_rfl), rfl, by decide⟩

set_option maxRecDepth 100000 in
set_option maxHeartbeats 1000000 in
theorem rplaces_any (A : Option Addr) (sz : List Int) (c : Nat) (w : World) (hA : Rd w A (nums .i64 sz)) (hg : GoodSz sz) :
    Calls Tryz.prog 88 #[.slice A sz.length c] w fun e w' => ∃ A' c', e = .returned (.slice A' (cntN sz (sz.length - 1)) c') ∧ w'.ownsRow w.heap.size 161 3 (.slice A' (cntN sz (sz.length - 1)) c') (cntN sz (sz.length - 1)) (plV (plL sz (sz.length - 1))) ∧ Below w.heap.size w w' := by
  have hl16 := hg.1.1
  obtain ⟨b, o, rfl, p00⟩ := hA.num (show 0 < sz.length by omega)
  have hbl : b < w.heap.size := lt_of_cell p00
  obtain ⟨L, hL⟩ : ∃ L, sz.length = L := ⟨_, rfl⟩
  rw [hL] at hl16 ⊢
  have HA := Lib.hid hA; have HG := Lib.hid hg; have HL := Lib.hid hL; clear hA hg hL p00
  go_enter Tryz.func88, Tryz.ntmps88
  go_wp2_with fail
  go_loopw [3, 4] (fun v i wr => ∃ k : Nat, k + 1 ≤ L ∧ i = .int .i64 k ∧ wr.ownsRow w.heap.size 161 3 v (cntN sz k) (plV (plL sz k)) ∧ Below w.heap.size w wr) (fun _ i _ => L - (intOf i).toNat)
  case atStart => exact ⟨0, by omega, rfl, World.ownsRow_nil _ _ _ _, Below.refl _ _⟩
  case round =>
    obtain ⟨wq, rfl⟩ : ∃ wq : World, wq = wr := ⟨_, rfl⟩
    obtain ⟨k, hk, rfl, ho0, hW0⟩ := hrel
    obtain ⟨A0, c9, rfl, _⟩ := own_form ho0
    have Ho0 := Lib.hid ho0; have HW0 := Lib.hid hW0; clear ho0 hW0
    have hwk : IntKind.i64.wrap ((k : Int) + 1) = (k : Int) + 1 := IntWalk.i64_in _ (by omega)
    by_cases hlt : k + 1 < L
    · have hR := HG.out.1
      have hL2 := HL.out
      have z0 := hR.at (k := k) (by omega)
      have z1 := hR.at (k := k + 1) (by omega)
      obtain ⟨_, _, e', p0⟩ := HA.out.num (show k < sz.length by omega)
      injection e' with e'; injection e' with e1 e2 _; subst e1; subst e2
      obtain ⟨_, _, e', p1⟩ := HA.out.num (show k + 1 < sz.length by omega)
      injection e' with e'; injection e' with e1 e2 _; subst e1; subst e2
      rw [z0.2.2] at p0
      rw [z1.2.2] at p1
      have hb1 := HG.out.bound (k := k + 1) (by omega)
      have hm := midN_eq sz k
      have hm2 : midN sz k = cntN sz k + szN sz (k + 1) * szN sz k := rfl
      have hpk : plK sz k = plW k (szN sz k) (szN sz (k + 1) * szN sz k) ++ plB k (szN sz (k + 1)) := rfl
      obtain ⟨c0, hc0⟩ : ∃ c0, szN sz k = c0 := ⟨_, rfl⟩
      obtain ⟨r1, hr1⟩ : ∃ r1, szN sz (k + 1) = r1 := ⟨_, rfl⟩
      obtain ⟨N, hN⟩ : ∃ N, cntN sz k = N := ⟨_, rfl⟩
      obtain ⟨M, hM⟩ : ∃ M, midN sz k = M := ⟨_, rfl⟩
      rw [hc0] at p0 hm2 hpk z0
      rw [hr1] at p1 hm2 hm hpk z1
      rw [hN, hM] at hm2
      rw [hM] at hm
      rw [← hm] at hb1
      have Hpk := Lib.hid hpk; have HN := Lib.hid hN; have Hm := Lib.hid hm
      have hki : (k : Int) + 1 < L := by omega
      have hki0 : (k : Int) < L := by omega
      clear hc0 hr1 hpk hm hN hM hL2 hR
      go_wp2_with fail
      go_loopw [3, 5] (fun v i wr => ∃ r : Nat, r ≤ r1 ∧ i = .int .i64 r ∧ wr.ownsRow w.heap.size 161 3 v (N + r * c0) (plV (plL sz k ++ plW k c0 (r * c0))) ∧ Below w.heap.size w wr) (fun _ i _ => r1 - (intOf i).toNat)
      case atStart =>
        refine ⟨0, Nat.zero_le _, rfl, ?_, HW0.out⟩
        rw [Nat.zero_mul, show plW k c0 0 = [] from rfl, List.append_nil, Nat.add_zero, ← HN.out]
        exact Ho0.out
      case round =>
        obtain ⟨w1, rfl⟩ : ∃ w1 : World, w1 = wr := ⟨_, rfl⟩
        obtain ⟨r, hr, rfl, ho1, hW1⟩ := hrel
        obtain ⟨A1, d1, rfl, _⟩ := own_form ho1
        have p0r := (hW1.cell (p := ⟨b, o + k, none⟩) hbl).trans p0
        have p1r := (hW1.cell (p := ⟨b, o + (k + 1), none⟩) hbl).trans p1
        have Ho1 := Lib.hid ho1; have HW1 := Lib.hid hW1; clear ho1 hW1
        by_cases hlr : r < r1
        · have hrc : r * c0 + c0 ≤ r1 * c0 := by
            have := Nat.mul_le_mul_right c0 (show r + 1 ≤ r1 by omega)
            rwa [Nat.succ_mul] at this
          have hrs : (r + 1) * c0 = r * c0 + c0 := Nat.succ_mul r c0
          obtain ⟨rc, hrce⟩ : ∃ rc, r * c0 = rc := ⟨_, rfl⟩
          obtain ⟨m1, hm1⟩ : ∃ m1, r1 * c0 = m1 := ⟨_, rfl⟩
          have hsu := fun j (hj : j < c0) => plW_succ k c0 r j hj
          rw [hrce] at hrc hrs hsu
          rw [hm1] at hrc hm2
          have Hsu := Lib.hid hsu; have Hrs := Lib.hid hrs; have Hrc := Lib.hid hrce
          clear hsu hrs hrce hm1
          go_wp2_with fail
          go_loopw [3, 6] (fun v i wr => ∃ j : Nat, j ≤ c0 ∧ i = .int .i64 j ∧ wr.ownsRow w.heap.size 161 3 v (N + (rc + j)) (plV (plL sz k ++ plW k c0 (rc + j))) ∧ Below w.heap.size w wr) (fun _ i _ => c0 - (intOf i).toNat)
          case atStart =>
            refine ⟨0, Nat.zero_le _, rfl, ?_, HW1.out⟩
            rw [Nat.add_zero, ← Hrc.out]
            exact Ho1.out
          case round =>
            obtain ⟨w2, rfl⟩ : ∃ w2 : World, w2 = wr := ⟨_, rfl⟩
            obtain ⟨j, hj, rfl, ho2, hW2⟩ := hrel
            obtain ⟨A2, d2, rfl, _⟩ := own_form ho2
            have p0s := (hW2.cell (p := ⟨b, o + k, none⟩) hbl).trans p0
            have hz := hW2.size
            have Ho2 := Lib.hid ho2; have HW2 := Lib.hid hW2; clear ho2 hW2 p0r p1r
            by_cases hlj : j < c0
            · have hsj := Hsu.out j hlj
              have Hsj := Lib.hid hsj; clear hsj
              go_wp2_with (at_builtin; refine wpList_push et_pls w2 rfl (.tmp 32) (.tmp 37) rfl w.heap.size (.slice A2 (N + (rc + j)) d2) (N + (rc + j)) _ rfl Ho2.out [.int .i64 k, .int .i64 r, .int .i64 j] rfl rfl (by simp [Value.oneCell']) (by omega) (by unfold maxLen; omega) (by omega) ?_)
              intro g7 c7 w7 ho7 hb7 hg7
              have hB7 := HW2.out.trans hb7
              have HO7 := Lib.hid ho7; have HB7 := Lib.hid hB7; clear ho7 hb7 hg7 hB7
              go_wp2_with fail
              go_roundw
              case rel =>
                refine ⟨j + 1, by omega, by go_num, ?_, HB7.out⟩
                have := HO7.out
                rw [← plV_one (k, r, (j : Int)), ← plV_append, List.append_assoc, ← Hsj.out, show N + (rc + j) + 1 = N + (rc + (j + 1)) by omega, show rc + j + 1 = rc + (j + 1) by omega] at this
                exact this
              case measure => simp [intOf]; omega
            · obtain rfl : j = c0 := by omega
              go_wp2_with fail
              go_roundw
              case rel =>
                refine ⟨r + 1, by omega, by go_num, ?_, HW2.out⟩
                rw [Hrs.out]
                exact Ho2.out
              case measure => simp [intOf]; omega
        · obtain rfl : r = r1 := by omega
          have Hm2 := Lib.hid hm2; clear hm2
          go_wp2_with fail
          go_loopw [3, 7] (fun v i wr => ∃ t : Nat, t ≤ r ∧ i = .int .i64 t ∧ wr.ownsRow w.heap.size 161 3 v (M + t) (plV (plL sz k ++ plW k c0 (r * c0) ++ plB k t)) ∧ Below w.heap.size w wr) (fun _ i _ => r - (intOf i).toNat)
          case atStart =>
            refine ⟨0, Nat.zero_le _, rfl, ?_, HW1.out⟩
            rw [show plB k 0 = [] from rfl, List.append_nil, Nat.add_zero, Hm2.out]
            exact Ho1.out
          case round =>
            obtain ⟨w2, rfl⟩ : ∃ w2 : World, w2 = wr := ⟨_, rfl⟩
            obtain ⟨t, ht, rfl, ho2, hW2⟩ := hrel
            obtain ⟨A2, d2, rfl, _⟩ := own_form ho2
            have p1s := (hW2.cell (p := ⟨b, o + (k + 1), none⟩) hbl).trans p1
            have hz := hW2.size
            have Ho2 := Lib.hid ho2; have HW2 := Lib.hid hW2; clear ho2 hW2 p0r p1r
            by_cases hlj : t < r
            · go_wp2_with (at_builtin; refine wpList_push et_pls w2 rfl (.tmp 48) (.tmp 52) rfl w.heap.size (.slice A2 (M + t) d2) (M + t) _ rfl Ho2.out [.int .i64 k, .int .i64 t, .int .i64 (-1)] rfl rfl (by simp [Value.oneCell']) (by omega) (by unfold maxLen; omega) (by omega) ?_)
              intro g7 c7 w7 ho7 hb7 hg7
              have hB7 := HW2.out.trans hb7
              have HO7 := Lib.hid ho7; have HB7 := Lib.hid hB7; clear ho7 hb7 hg7 hB7
              go_wp2_with fail
              go_roundw
              case rel =>
                refine ⟨t + 1, by omega, by go_num, ?_, HB7.out⟩
                have := HO7.out
                rw [← plV_one (k, t, -1), ← plV_append, show M + t + 1 = M + (t + 1) by omega] at this
                rw [plB_succ]
                simp only [List.append_assoc] at this ⊢
                exact this
              case measure => simp [intOf]; omega
            · obtain rfl : t = r := by omega
              go_wp2_with fail
              go_roundw
              case rel =>
                refine ⟨k + 1, by omega, by go_num, ?_, HW2.out⟩
                rw [plL_succ, Hpk.out, ← List.append_assoc, ← Hm.out]
                exact Ho2.out
              case measure => simp [intOf]; omega
    · obtain rfl : k = L - 1 := by omega
      have hki : ¬ ((((L - 1 : Nat) : Int) + 1) < L) := by omega
      go_wp2_with fail
      go_ret
      exact ⟨_, _, rfl, Ho0.out, HW0.out⟩
end Go.Proofs.YtfiojofcafjfeaaGreat
