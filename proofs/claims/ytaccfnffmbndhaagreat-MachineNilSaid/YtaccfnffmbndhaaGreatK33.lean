/- The walk of MachineMakes. No condition. -/
import Derived.Test.YtaccfnffmbndhaaGreatK31
import Derived.Test.YtaccfnffmbndhaaGreatK32
import Derived.Test.YtaccfnffmbndhaaGreatK02
set_option linter.unusedSimpArgs false
set_option linter.unusedVariables false
namespace Go.Proofs.YtaccfnffmbndhaaGreat
open Go.RowKit Go.ChangeShapes Go.WideShapes Go.ChangeAt
theorem wpl_ldg {P : Program} {ops : Array Oper} {rest : List Oper} {op : Oper} {a : Act} {w : World} {Q : Exit → Act → World → Prop} {ty : TypeId} {x : Operand} {b o : Nat} {xs : Array Value} {t : TypeId} {fr : Nat × Nat} (cs : Array Value)
    (hb : w.heap[b]? = some (.cells xs t fr)) (hr : RowTy P ty cs.size) (hw : Region.wanted op (yielded ops a.tmps) = true) (ho : op.op = .load ty x) (hx : a.eval x = .pointer (some ⟨b, o, none⟩)) (hcs : (xs.toList.drop o).take cs.toList.length = cs.toList)
    (h : wpList P ops Q rest (a.put op.dst (.agg cs)) w) : wpList P ops Q (op :: rest) a w := by
  obtain ⟨⟨d, h1, h2⟩, h3⟩ := hr
  refine wpList_step fun K hK => ?_
  rw [if_pos hw]
  exact wp_load_mid ty x ho b o hx cs.toList d (range_block hb o hcs) h1 h2 (by simpa using h3) (hK _ _ (by simpa using h))
theorem mst0_cur {i : Inp} (hs : SmIn i) (x : Nat) : (curL i x (mst0 i).st)[(mst0 i).nx]? = (allL i x)[doneN i x (mst0 i)]? := by
  have e0 : doneN i x (mst0 i) = 0 := by simp [doneN, mst0]
  rw [e0]
  show (curL i x 0)[0]? = _
  unfold curL
  by_cases h : 0 < i.cfg.steps.toNat
  · rw [if_pos h]
    have hp := items_pos (plnI i) x 0
    have := allN_at hs.ok (x := x) (st := 0) (nx := 0) (List.getElem?_eq_getElem hp) h
    rw [Nat.zero_mul, Nat.zero_add] at this
    rw [this]
    exact List.getElem?_eq_getElem hp
  · rw [if_neg h, show allL i x = [] by unfold allL allN; rw [show i.cfg.steps.toNat = 0 by omega]; rfl]
theorem lsame_new {H : Nat → Prop} {w : World} {b x : Nat} {i : Inp} {a : MAd} {vs : Array Value} (h : MachAt H w b i x a (mst0 i)) (hn : ∀ k, Mut b a k → ¬ H k) (r : RMach w vs i x (mst0 i)) (hs : SmIn i) :
    Calls Tryz.prog 14 #[.pointer (some ⟨b, 0, none⟩), .agg vs] w fun e w' => e = .returned (.int .i64 1) ∧ Below w.heap.size w w' := by
  have e0 : doneN i x (mst0 i) = 0 := by simp [doneN, mst0]
  refine lsame_any h hn r hs (mst0_cur hs x) (by rw [e0]; exact Nat.zero_le _) (by rw [e0, opnN_zero]; rfl) (fun y hy => ?_) (by simp [mst0])
  simp only [mst0, List.mem_singleton] at hy
  subst hy
  exact ⟨rfl, by simp⟩
theorem own_rule {W7 W10 : World} {X : Nat} {vs : Array Value} {t : TypeId} {fr : Nat × Nat} {v u : Value} (h7 : W7.heap[X]? = some (.cells vs t fr)) (hu : vs[13]? = some u) (q : Below W7.heap.size W7 W10) (hT : ∀ j, v.ownBlock = some j → X < j) :
    ∀ w', Keep (fun j => v.ownBlock = some j) W10 w' → w'.cell? ⟨X, 13, none⟩ = some u := fun w' k => by
  have h10 := sb h7 W10 q
  rw [cell_of_row w' X 13 _ _ _ ((k.block X (lt_of_block h10) (fun e => absurd (hT X e) (by omega))).trans h10), hu]
theorem new_below {w W10 : World} {o : Obj} (k : Keep (fun j => j = w.heap.size) (w.alloc o) W10) : Below w.heap.size w W10 :=
  ((br w).alloc (Nat.le_refl _) o).trans (k.toBelow (by rw [World.size_alloc]; omega) (fun j hj => by omega))
set_option maxRecDepth 100000 in
set_option maxHeartbeats 4000000 in
theorem MachineMakes_walk {H : Type} {enc : TypeId × Value → H} {base : Nat} {v0 v1 : Value} {d0 d1 : DataW H} {p0 p1 : List MemPlace} (W : World)
    (o0 : Value.okWide Tryz.prog W .any base 29 v0) (h0 : DataW.Trod enc Tryz.prog W 0 (fun _ => true) true 29 v0 d0 p0) (z0 : Light Tryz.prog 29 d0)
    (o1 : Value.okWide Tryz.prog W .any base 3 v1) (h1 : DataW.Trod enc Tryz.prog W 0 (fun _ => true) true 3 v1 d1 p1) (z1 : Light Tryz.prog 3 d1) :
    Calls Tryz.prog 3 #[v0, v1] W fun e w' => e = .returned (.bool true) ∧ Below W.heap.size W w' := by
  obtain ⟨A, c, D, cd, T, ct, R, cr, i, rfl, hI, _⟩ := open_inp o0 h0 z0
  obtain ⟨z, rfl, _, _, hzw⟩ := open_int Tryz.underlying3 o1 h1
  clear o0 h0 z0 o1 h1 z1 hzw
  have hfew := fun w' (q : Below W.heap.size W w') => rfew21_any A c D cd T ct R cr i w' (hI.below q)
  have hcx := fun w' (q : Below W.heap.size W w') (hs : SmallI i) => rclonex_any D i.data cd w' (hI.d.below stays_ex q) (by have := hs.1; omega)
  have hcs := fun w' (q : Below W.heap.size W w') => rclone_any T i.start ct w' (hI.t.hr.below q) hI.t.hl
  have hown := fun D1 T1 f1 (w' : World) (q : Below W.heap.size W w') (hs : SmallI i) (hD : SlRd rEx 2 w' D1 i.data) (hT : Rd w' T1 (nums .i64 i.start)) (hf : i.start.length ≤ f1) => (⟨hI.c.below q, hD, by have := hs.1; omega, ⟨hf, hI.t.hl, hT, hI.t.hw⟩, by have := hs.2.1; omega, hI.r.below q, by have := hs.2.2.1; omega, hI.ru, hI.ra, hI.rm⟩ : InpRd w' A c D1 T1 f1 R i)
  have hrd := fun w' (q : Below W.heap.size W w') (hs : SmallI i) => (hI.below q).rd hs
  unfold FewI at hfew
  obtain ⟨W1, hW1⟩ : ∃ W1, W.alloc (.cells (inpVals A c D cd T ct R cr i) 29) = W1 := ⟨_, rfl⟩
  have hx : W1.heap[W.heap.size]? = some (.cells (inpVals A c D cd T ct R cr i) 29 (0, 0)) := by rw [← hW1]; exact heap_alloc_new W _
  have hB : Below W.heap.size W W1 := by rw [← hW1]; exact (br W).alloc (Nat.le_refl _) _
  have t12 : ∀ w', Below W1.heap.size W1 w' → w'.cell? ⟨W.heap.size, 12, none⟩ = some (.slice D i.data.length cd) := fun w' q => cell_of_row w' W.heap.size 12 _ _ _ (sb hx w' q)
  have t13 : ∀ w', Below W1.heap.size W1 w' → w'.cell? ⟨W.heap.size, 13, none⟩ = some (.slice T i.start.length ct) := fun w' q => cell_of_row w' W.heap.size 13 _ _ _ (sb hx w' q)
  have tl := sl hx
  have HX0 := Lib.hid hx; have HW1 := Lib.hid hW1; have Hfew := Lib.hid hfew; have Hcx := Lib.hid hcx; have Hcs := Lib.hid hcs; have Hown := Lib.hid hown; have Hrd := Lib.hid hrd; have HB := Lib.hid hB
  have Hx := Lib.hid (fun w' (q : Below W1.heap.size W1 w') => hB.trans (q.mono hB.size)); have Hal := Lib.hid (fun w' (q : Below W1.heap.size W1 w') => (alive21_any w').mono fun e w'' (h : _ ∧ Below _ _ _) => (⟨h.1, hB.trans ((q.trans (h.2.mono q.size)).mono hB.size)⟩ : e = .returned (.bool true) ∧ Below W.heap.size W w''))
  clear hfew hcx hcs hown hrd hI hx hB hW1
  go_enter Tryz.func3, Tryz.ntmps3
  go_wp2_with (refine wpl_load (inpVals A c D cd T ct R cr i) (b := W.heap.size) (by rw [HW1.out]; exact HX0.out) rt_inp rfl rfl rfl rfl ?_)
  rw [HW1.out]
  have q1 := br W1
  refine (Hfew.out W1 (Hx.out _ q1)).mono ?_
  rintro e w2 ⟨⟨b, rfl, hbs⟩, k2⟩
  have q2 := bt q1 k2
  clear q1 k2
  rcases bool_ft b with rfl | rfl
  · clear hbs
    go_wp2_with fail
    refine (Hal.out _ q2).mono ?_
    rintro e w3 ⟨rfl, h3⟩
    go_wp2_with fail
    go_ret
    exact ⟨rfl, h3⟩
  have Hs := Lib.hid (hbs rfl)
  clear hbs
  go_wp2_with (first | (refine wpl_load (inpVals A c D cd T ct R cr i) (sb HX0.out _ q2) rt_inp rfl rfl rfl rfl ?_) | (refine wpl_store (heap_alloc_new _ _) rt_inp rfl rfl rfl rfl rfl rfl rfl ?_; intro W3 e3 k3; have E3 := Lib.hid e3; have K3 := Lib.hid k3; clear e3 k3))
  obtain ⟨X, hX⟩ : ∃ X, w2.heap.size = X := ⟨_, rfl⟩
  have h3 := E3.out
  have q3 : Below W1.heap.size W1 W3 := (q2.alloc q2.size _).trans (K3.out.toBelow (by rw [World.size_alloc]; have := q2.size; omega) (fun j hj => by rw [hj]; exact q2.size))
  have gX : W1.heap.size ≤ X := by rw [← hX]; exact q2.size
  rw [hX] at h3 ⊢
  have gX3 : X < W3.heap.size := lt_of_block h3
  have H3 := Lib.hid h3
  clear hX h3 q2 E3 K3
  dsimp only [Act.put]
  refine HA.g (fun w' : World => Below W1.heap.size W1 w') ?_
  refine HA.t ?_ [0, 1, 3, 4] q3.drew ?_
  refine HA.c 2 (Hcx.out _ (Hx.out _ q3.drew) Hs.out.1) ?_
  rintro _ w4 ⟨v4, rfl, m4⟩
  obtain ⟨D1, e1, rfl⟩ := m4.form
  have k4 := m4.b
  have q4 := bt q3.drew k4
  refine ⟨_, rfl, q4, fun _ => ?_⟩
  refine HA.t ?_ [6] q4 ?_
  refine HA.c 5 (Hcs.out w4 (Hx.out _ q4)) ?_
  rintro _ w5 ⟨T1, f1, rfl, o5, k5⟩
  have q5 := bt q4 k5
  refine ⟨_, rfl, q5, fun _ => ?_⟩
  have m5 := m4.below k5
  have k35 : Below W3.heap.size W3 w5 := bt (bt (br W3).drew k4) k5
  have h5 := sb H3.out _ k35
  have f1n : i.start.length ≤ f1 := by obtain ⟨_, _, e, h⟩ := own_form o5; simp only [Value.slice.injEq] at e; omega
  have h35 := k35.size
  have h34 := k4.size
  have rb : W3.heap.size = W3.drew.heap.size := rfl
  have h5' := h5
  dsimp only [inpVals] at h5'
  have u5 := bx15 h5'
  refine HA.s 7 (w5.setCell ⟨X, 12, none⟩ (.slice D1 i.data.length e1)) (q5.setCell gX _) ?_
  refine HA.t ?_ [8] (q5.setCell gX _) ?_
  refine HA.s 9 ((w5.setCell ⟨X, 12, none⟩ (.slice D1 i.data.length e1)).setCell ⟨X, 13, none⟩ (.slice T1 i.start.length f1)) ((q5.setCell gX _).setCell gX _) ?_
  refine HA.d ?_
  clear u5
  have h7 : ((w5.setCell ⟨X, 12, none⟩ (.slice D1 i.data.length e1)).setCell ⟨X, 13, none⟩ (.slice T1 i.start.length f1)).heap[X]? = some (.cells (inpVals A c D1 e1 T1 f1 R cr i) 29 (0, 0)) := ss2 h5' (by simp)
  have q7 : Below W1.heap.size W1 ((w5.setCell ⟨X, 12, none⟩ (.slice D1 i.data.length e1)).setCell ⟨X, 13, none⟩ (.slice T1 i.start.length f1)) := (q5.setCell gX _).setCell gX _
  have kX : Keep (fun j => j = X) w5 ((w5.setCell ⟨X, 12, none⟩ (.slice D1 i.data.length e1)).setCell ⟨X, 13, none⟩ (.slice T1 i.start.length f1)) := Keep.setCell (S := fun j => j = X) (Keep.setCell (S := fun j => j = X) (Keep.refl _ _) _ (.inr rfl) _) _ (.inr rfl) _
  generalize (w5.setCell ⟨X, 12, none⟩ (.slice D1 i.data.length e1)).setCell ⟨X, 13, none⟩ (.slice T1 i.start.length f1) = W7 at h7 q7 kX ⊢
  have aX : Agr W3.heap.size w5 W7 := fun k hB hl => kX.block k hl (by omega)
  have d7 : SlRd rEx 2 W7 D1 i.data := top_sl tops_ex (m5.doneT rfl : SlRd rEx 2 (topW W3.heap.size w5) D1 i.data) aX
  have o7 := kX.own o5 (fun j hj e => by have := (o5.lt j hj).1; omega)
  have a2 : KRow .i64 2 W7 W3.heap.size (.slice T1 i.start.length f1) i.start.length := ⟨_, own_base o7 (by omega)⟩
  have hR := Hown.out D1 T1 f1 W7 (Hx.out _ q7) Hs.out.1 d7 (Rd.own o7) f1n
  have hlT : ∀ j, (Value.slice T1 i.start.length f1).ownBlock = some j → W3.heap.size ≤ j ∧ j < W7.heap.size := fun j hj => ⟨by have := (o7.lt j hj).1; omega, (o7.lt j hj).2⟩
  have hcase : (∃ C : Int, C ≠ 0 ∧ (Calls Tryz.prog 12 #[.agg (inpVals A c D1 e1 T1 f1 R cr i), .int .i64 z] W7 fun e w' => e = .returned (.tuple #[.pointer none, .int .i64 C]) ∧ Below W7.heap.size W7 w') ∧
      (∀ w', Below W1.heap.size W1 w' → Calls Tryz.prog 13 #[.agg (inpVals A c D cd T ct R cr i), .int .i64 z] w' fun e w'' => e = .returned (.tuple #[.agg #[.slice none 0 0, .int .i64 0, .int .i64 0, .int .i64 0, .int .i64 0, .int .i64 0, .int .i64 0, .int .i64 0, .int .i64 0, .int .i64 0, .int .i64 0, .int .i64 0, .slice none 0 0, .slice none 0 0, .slice none 0 0, .int .i64 0, .slice none 0 0, .slice none 0 0, .slice none 0 0, .slice none 0 0, .slice none 0 0, .int .i64 0], .int .i64 C]) ∧ Below w'.heap.size w' w'')) ∨
      (inCode i = 0 ∧ ∃ x : Nat, z = x ∧ x < (plnI i).W) := by
    by_cases hc : inCode i = 0
    · by_cases hz : z < 0 ∨ i.cfg.workers ≤ z
      · exact .inl ⟨2, by decide, mnew_off A c D1 e1 T1 f1 R cr i z W7 hR hc hz, fun w' q => rmnew_off A c D cd T ct R cr i z w' (Hrd.out w' (Hx.out _ q) Hs.out.1) hc hz⟩
      · have hw := (in_good.1 hc).c.w
        exact .inr ⟨hc, z.toNat, by omega, by simp only [plnI]; omega⟩
    · exact .inl ⟨inCode i, hc, mnew_bad A c D1 e1 T1 f1 R cr i z W7 hR hc, fun w' q => rmnew_bad A c D cd T ct R cr i z w' (Hrd.out w' (Hx.out _ q) Hs.out.1) hc⟩
  have H7 := Lib.hid h7; have A2 := Lib.hid a2; have HlT := Lib.hid hlT; have HR := Lib.hid hR
  clear k4 k5 m4 m5 q3 q4 q5 o5 k35 h5 h5' h34 h35 h7 kX aX d7 o7 a2 hR hlT f1n t12 t13 tl
  rcases hcase with ⟨C, hC, hB1, hB2⟩ | ⟨hc, x, rfl, hxW⟩
  · have HC1 := Lib.hid hB1; have HC2 := Lib.hid hB2; have HC := Lib.hid hC
    clear hB1 hB2 hC
    go_wp2_with (refine wpl_load (inpVals A c D1 e1 T1 f1 R cr i) H7.out rt_inp rfl rfl rfl rfl ?_)
    refine HC1.out.mono ?_
    rintro e w8 ⟨rfl, k8⟩
    have q8 := bt q7 k8
    go_wp2_with (refine wpl_load (inpVals A c D cd T ct R cr i) (sb HX0.out _ q8) rt_inp rfl rfl rfl rfl ?_)
    refine (HC2.out w8 q8).mono ?_
    rintro e w9 ⟨rfl, k9⟩
    have q9 := bt q8 k9
    have j9 := bt k8 k9
    have hn := Hs.out.1.2.1
    have hXT : ∀ j, (Value.slice T1 i.start.length f1).ownBlock = some j → X < j := fun j hj => by have := (HlT.out j hj).1; omega
    have J9 := Lib.hid j9; have Q9 := Lib.hid q9; have HXT := Lib.hid hXT
    clear k8 k9 q7 q8 q9 j9 hXT
    go_wp2_with (refine wpl_store (heap_alloc_new _ _) rt_rm rfl rfl rfl rfl rfl rfl rfl ?_; intro W10 e10 k10; have y13 := own_rule H7.out (u := .slice T1 i.start.length f1) rfl (bt J9.out (new_below k10)) HXT.out; have K11 := Keep.refl (fun j => (Value.slice T1 i.start.length f1).ownBlock = some j) W10; have D2 := Lib.hid (A2.out.below (bt J9.out (new_below k10))); have Q10 := Lib.hid (bt Q9.out (new_below k10)); clear e10 k10)
    clear K11
    go_loopw [39] (fun v wr => ∃ k : Nat, k ≤ i.start.length ∧ v = .int .i64 k ∧ Keep (fun j => (Value.slice T1 i.start.length f1).ownBlock = some j) W10 wr ∧ KRow .i64 2 wr W3.heap.size (.slice T1 i.start.length f1) i.start.length) (fun v _ => i.start.length - (intOf v).toNat); (case atStart => exact ⟨0, Nat.zero_le _, rfl, Keep.refl _ _, D2.out⟩)
    case round =>
      obtain ⟨k, hk, rfl, K12, a12⟩ := hrel
      by_cases hlt : k < i.start.length
      · obtain ⟨gt, rfl⟩ := a12.any.form (by omega); obtain ⟨u, p1, f1'⟩ := a12.cell hlt; have hkl : (k : Int) < i.start.length := (by omega); have HA12 := Lib.hid a12; clear a12; go_wp2_with fail; go_roundw; (case rel => exact ⟨k + 1, by omega, by go_num, Keep.setCell (S := fun j => (Value.slice (some ⟨gt, 0, none⟩) i.start.length f1).ownBlock = some j) K12 ⟨gt, k, none⟩ (.inr rfl) _, HA12.out.put _ _⟩); (case measure => simp [intOf]; omega)
      · have hkl : ¬ ((k : Int) < i.start.length) := by omega
        have qV := Q10.out.trans (K12.toBelow Q10.out.size (fun j hj => by have := (HlT.out j hj).1; omega))
        have QV := Lib.hid qV
        have hCb : (C != 0) = true := by rw [bne_iff_ne]; exact HC.out
        clear a12 qV
        go_wp2_with fail
        refine (Hal.out _ QV.out).mono ?_
        rintro e w11 ⟨rfl, h11⟩
        go_wp2_with fail
        go_ret
        exact ⟨rfl, h11⟩
  · have hsm := Hs.out.sm hc
    have HN := Lib.hid (mnew_good A c D1 e1 T1 f1 R cr i x W7 HR.out hsm hxW)
    go_wp2_with (refine wpl_load (inpVals A c D1 e1 T1 f1 R cr i) H7.out rt_inp rfl rfl rfl rfl ?_)
    refine HN.out.mono ?_
    rintro e w8 ⟨b, a, rfl, k8, -, hmach⟩
    have q8 := bt q7 k8
    go_wp2_with (refine wpl_load (inpVals A c D cd T ct R cr i) (sb HX0.out _ q8) rt_inp rfl rfl rfl rfl ?_)
    refine (rmnew_good A c D cd T ct R cr i x w8 (Hrd.out w8 (Hx.out _ q8) Hs.out.1) hsm hxW).mono ?_
    rintro e w9 ⟨vs, rfl, hsz, hone, k9, hrm⟩
    have q9 := bt q8 k9
    have j9 := bt k8 k9
    have hn := Hs.out.1.2.1
    have hXT : ∀ j, (Value.slice T1 i.start.length f1).ownBlock = some j → X < j := fun j hj => by have := (HlT.out j hj).1; omega
    have J9 := Lib.hid j9; have Q9 := Lib.hid q9; have HXT := Lib.hid hXT; have HM := Lib.hid hmach; have HRM := Lib.hid hrm; have K89 := Lib.hid k9; have J8 := Lib.hid k8; have Hsz := Lib.hid hsz; have Hone := Lib.hid hone
    clear k8 k9 q7 q8 q9 j9 hXT hmach hrm hsz hone
    go_wp2_with (refine wpl_store (heap_alloc_new _ _) rt_rm rfl rfl rfl rfl Hsz.out (by rw [Hsz.out]; rfl) Hone.out ?_; intro W10 e10 k10; have y13 := own_rule H7.out (u := .slice T1 i.start.length f1) rfl (bt J9.out (new_below k10)) HXT.out; have K11 := Keep.refl (fun j => (Value.slice T1 i.start.length f1).ownBlock = some j) W10; have D2 := Lib.hid (A2.out.below (bt J9.out (new_below k10))); have Q10 := Lib.hid (bt Q9.out (new_below k10)); have E10 := Lib.hid e10; have B10 := Lib.hid (new_below k10); clear e10 k10)
    clear K11
    go_loopw [39] (fun v wr => ∃ k : Nat, k ≤ i.start.length ∧ v = .int .i64 k ∧ Keep (fun j => (Value.slice T1 i.start.length f1).ownBlock = some j) W10 wr ∧ KRow .i64 2 wr W3.heap.size (.slice T1 i.start.length f1) i.start.length) (fun v _ => i.start.length - (intOf v).toNat); (case atStart => exact ⟨0, Nat.zero_le _, rfl, Keep.refl _ _, D2.out⟩)
    case round =>
      obtain ⟨k, hk, rfl, K12, a12⟩ := hrel
      by_cases hlt : k < i.start.length
      · obtain ⟨gt, rfl⟩ := a12.any.form (by omega); obtain ⟨u, p1, f1'⟩ := a12.cell hlt; have hkl : (k : Int) < i.start.length := (by omega); have HA12 := Lib.hid a12; clear a12; go_wp2_with fail; go_roundw; (case rel => exact ⟨k + 1, by omega, by go_num, Keep.setCell (S := fun j => (Value.slice (some ⟨gt, 0, none⟩) i.start.length f1).ownBlock = some j) K12 ⟨gt, k, none⟩ (.inr rfl) _, HA12.out.put _ _⟩); (case measure => simp [intOf]; omega)
      · have hkl : ¬ ((k : Int) < i.start.length) := by omega
        have qV := Q10.out.trans (K12.toBelow Q10.out.size (fun j hj => by have := (HlT.out j hj).1; omega))
        obtain ⟨V, rfl⟩ : ∃ V : World, V = wr := ⟨_, rfl⟩
        have mV := HM.out (fun _ => False) V ((Keep.below (bt K89.out B10.out)).trans (K12.mono fun j _ hj => (HlT.out j hj).2)) (fun _ h => h.elim)
        have rV := HRM.out V ((Keep.below B10.out).trans (K12.mono fun j _ hj => by have := (HlT.out j hj).2; have := J8.out.size; omega)) (Hrd.out V (Hx.out _ qV) Hs.out.1)
        have eV := (K12.block _ (lt_of_block E10.out) (fun e => by have := (HlT.out _ e).2; have := J9.out.size; omega)).trans E10.out
        have QV := Lib.hid qV; have MV := Lib.hid mV; have RV := Lib.hid rV; have EV := Lib.hid eV
        clear a12 qV mV rV eV K12 y13
        go_wp2_with fail
        refine ((alive21_any _)).mono ?_
        rintro e w11 ⟨rfl, k11⟩
        go_wp2_with (refine wpl_ldg vs (sb EV.out _ k11) (by rw [Hsz.out]; exact rt_rm) rfl rfl rfl (by rw [List.drop_zero, List.take_length]) ?_)
        refine (lsame_new (MV.out.below k11 (fun _ _ h => h)) (fun _ _ h => h) (RV.out.below k11) hsm).mono ?_
        rintro e w12 ⟨rfl, k12⟩
        have Q12 := Lib.hid (Hx.out _ (bt (bt QV.out k11) k12))
        go_wp2_with fail
        go_ret
        exact ⟨rfl, Q12.out⟩
end Go.Proofs.YtaccfnffmbndhaaGreat
