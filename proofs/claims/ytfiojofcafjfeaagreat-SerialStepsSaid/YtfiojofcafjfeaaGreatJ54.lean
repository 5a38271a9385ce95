/- The walk of SerialSteps. No condition. -/
import Derived.Test.YtfiojofcafjfeaaGreatJ45
import Derived.Test.YtfiojofcafjfeaaGreatJ53
import Derived.Test.YtfiojofcafjfeaaGreatJ49
set_option linter.unusedSimpArgs false
set_option linter.unusedVariables false
namespace Go.Proofs.YtfiojofcafjfeaaGreat
open Go.RowKit Go.ChangeShapes Go.WideShapes Go.ChangeAt

/-- A state of a list: its cells, and its vectors, whatever else changes. -/
theorem MapR.at {Z : Option Addr} {w0 w : World} {base n c : Nat} {i : Inp} {A : Option Addr} (h : MapR Z w0 base w i n (.slice A n c)) {j : Nat} (hj : j < n) :
    ∃ g A1 c1 A2 c2, A = some ⟨g, 0, none⟩ ∧ base ≤ g ∧ w.cell? ⟨g, j * 2, none⟩ = some (.slice A1 (traj i j).1.length c1) ∧ w.cell? ⟨g, j * 2 + 1, none⟩ = some (.slice A2 (traj i j).2.length c2) ∧
      ∀ (S : Nat → Prop) (w' : World), (∀ a, Z = some a → ¬ S a.block) → (∀ j, S j → j < w0.heap.size) → Keep S w w' → NumsRd w' A1 (traj i j).1 c1 ∧ NumsRd w' A2 (traj i j).2 c2 := by
  obtain ⟨rows, h1, h2, h3, h4⟩ := h
  obtain ⟨g, c', hv, _⟩ := h1.form (by omega)
  simp only [Value.slice.injEq] at hv
  obtain ⟨rfl, _, _⟩ := hv
  obtain ⟨u, v, e, k1, k2, m1, m2, w1, w2⟩ := h4 j hj
  obtain ⟨A1, c1, rfl, hc1, r1⟩ := k1.form
  obtain ⟨A2, c2, rfl, hc2, r2⟩ := k2.form
  have hl := h1.1
  have f0 := flat_get h3 j 0 (by omega) (by decide)
  have f1 := flat_get h3 j 1 (by omega) (by decide)
  rw [e] at f0 f1
  have hlen := flat_len h3
  refine ⟨g, A1, c1, A2, c2, rfl, (h1.lt g rfl).1, by rw [h1.cellAt _ (by omega)]; simpa using f0, by rw [h1.cellAt _ (by omega)]; simpa using f1, fun S w' hz hS k => ?_⟩
  have n1 := (k1.old hz hS k).form
  have n2 := (k2.old hz hS k).form
  obtain ⟨A1', c1', e1, _, r1'⟩ := n1
  obtain ⟨A2', c2', e2, _, r2'⟩ := n2
  simp only [Value.slice.injEq] at e1 e2
  obtain ⟨rfl, _, _⟩ := e1
  obtain ⟨rfl, _, _⟩ := e2
  exact ⟨⟨hc1, by omega, r1', w1⟩, ⟨hc2, by omega, r2', w2⟩⟩
theorem wf_u8s {z : Int} (h : (Lit.int .u8 z).wf = true) : 0 ≤ z ∧ z ≤ 255 := by
  simpa [Lit.wf, IntKind.min, IntKind.max, IntKind.signed, IntKind.bits] using h
set_option maxRecDepth 100000 in
set_option maxHeartbeats 4000000 in
theorem SerialSteps_walk {H : Type} {enc : TypeId × Value → H} {base : Nat} {v0 v1 : Value} {d0 d1 : DataW H} {p0 p1 : List MemPlace} (W : World)
    (o0 : Value.okWide Tryz.prog W .any base 29 v0) (h0 : DataW.Trod enc Tryz.prog W 0 (fun _ => true) true 29 v0 d0 p0) (z0 : Light Tryz.prog 29 d0)
    (o1 : Value.okWide Tryz.prog W .any base 5 v1) (h1 : DataW.Trod enc Tryz.prog W 0 (fun _ => true) true 5 v1 d1 p1) (z1 : Light Tryz.prog 5 d1) :
    Calls Tryz.prog 6 #[v0, v1] W fun e w' => e = .returned (.bool true) ∧ Below W.heap.size W w' := by
  obtain ⟨A, c, D, cd, T, ct, R, cr, i, rfl, hI, _⟩ := open_inp o0 h0 z0
  obtain ⟨nn, rfl, _, _, hnn⟩ := open_int Tryz.underlying5 o1 h1
  have hnb := wf_u8s hnn
  clear o0 h0 z0 o1 h1 z1 hnn
  have hfew := fun w' (q : Below W.heap.size W w') => fewrun_any A c D cd T ct R cr i w' (hI.below q)
  have hcx := fun w' (q : Below W.heap.size W w') (hs : SmallI i) => rclonex_any D i.data cd w' (hI.d.below stays_ex q) (by have := hs.1; omega)
  have hcs := fun w' (q : Below W.heap.size W w') => rclone_any T i.start ct w' (hI.t.hr.below q) hI.t.hl
  have hcu := fun w' (q : Below W.heap.size W w') => uclone_any R i.draws cr w' (hI.r.below q) hI.rl
  have hown := fun D1 T1 f1 R1 (w' : World) (q : Below W.heap.size W w') (hs : SmallI i) (hD : SlRd rEx 2 w' D1 i.data) (hT : Rd w' T1 (nums .i64 i.start)) (hf : i.start.length ≤ f1) (hR : Rd w' R1 (nums .u64 i.draws)) => (⟨hI.c.below q, hD, by have := hs.1; omega, ⟨hf, hI.t.hl, hT, hI.t.hw⟩, by have := hs.2.1; omega, hR, by have := hs.2.2.1; omega, hI.ru, hI.ra, hI.rm⟩ : InpRd w' A c D1 T1 f1 R1 i)
  have hrd := fun w' (q : Below W.heap.size W w') (hs : SmallI i) => (hI.below q).rd hs
  have hfew' := hfew
  unfold FewI at hfew
  obtain ⟨z, hz⟩ : ∃ z, inCode i = z := ⟨_, rfl⟩
  dsimp only [inpVals] at hfew
  obtain ⟨W1, hW1⟩ : ∃ W1, W.alloc (.cells #[.slice A i.cfg.sizes.length c, .int .i64 i.cfg.shift, .int .i64 i.cfg.rate, .int .i64 i.cfg.mom, .int .i64 i.cfg.workers, .int .i64 i.cfg.batch, .int .i64 i.cfg.micros, .int .i64 i.cfg.steps, .int .i64 i.cfg.bucket, .int .i64 i.cfg.chunk, .int .i64 i.cfg.window, .int .i64 i.cfg.cap, .slice D i.data.length cd, .slice T i.start.length ct, .slice R i.draws.length cr] 29) = W1 := ⟨_, rfl⟩
  have hx : W1.heap[W.heap.size]? = some (.cells #[.slice A i.cfg.sizes.length c, .int .i64 i.cfg.shift, .int .i64 i.cfg.rate, .int .i64 i.cfg.mom, .int .i64 i.cfg.workers, .int .i64 i.cfg.batch, .int .i64 i.cfg.micros, .int .i64 i.cfg.steps, .int .i64 i.cfg.bucket, .int .i64 i.cfg.chunk, .int .i64 i.cfg.window, .int .i64 i.cfg.cap, .slice D i.data.length cd, .slice T i.start.length ct, .slice R i.draws.length cr] 29 (0, 0)) := by rw [← hW1]; exact heap_alloc_new W _
  have hB : Below W.heap.size W W1 := by rw [← hW1]; exact (br W).alloc (Nat.le_refl _) _
  have hs1 : W1.heap.size = W.heap.size + 1 := by rw [← hW1]; simp
  have t := fun w' q => bx15 (sb hx w' q)
  have tl := sl hx
  have hTb : 0 < i.start.length → ∀ a, T = some a → a.block < W.heap.size := fun h a ha => rd_lt hI.t.hr h a ha
  have HW1 := Lib.hid hW1; have Hfew := Lib.hid hfew; have Hcx := Lib.hid hcx; have Hcs := Lib.hid hcs; have Hcu := Lib.hid hcu; have Hown := Lib.hid hown; have Hrd := Lib.hid hrd; have Hz := Lib.hid hz; have HTb := Lib.hid hTb; have HB := Lib.hid hB; have Hs1 := Lib.hid hs1; have HI := Lib.hid hI
  have Hx := Lib.hid (fun w' (q : Below W1.heap.size W1 w') => hB.trans (q.mono hB.size)); have Hal := Lib.hid (fun w' (q : Below W1.heap.size W1 w') => (alive14_any w').mono fun e w'' (h : _ ∧ Below _ _ _) => (⟨h.1, hB.trans ((q.trans (h.2.mono q.size)).mono hB.size)⟩ : e = .returned (.bool true) ∧ Below W.heap.size W w''))
  clear hfew hfew' hcx hcs hcu hown hrd hI hz hx hB hW1 hTb hs1
  go_enter Tryz.func6, Tryz.ntmps6
  dsimp only [inpVals]
  go_wp2_with fail
  rw [HW1.out]
  have q1 := br W1
  refine (Hfew.out W1 (Hx.out _ q1)).mono ?_
  rintro e w2 ⟨⟨b, rfl, hbs⟩, k2⟩
  have q2 := bt q1 k2
  clear q1 k2 HW1
  rcases bool_ft b with rfl | rfl
  · clear hbs
    go_wp2_with fail
    refine (Hal.out _ q2).mono ?_
    rintro e w3 ⟨rfl, h3⟩
    go_wp2_with fail
    go_ret
    exact ⟨rfl, h3⟩
  have Hs := Lib.hid (hbs rfl)
  clear hbs
  go_upto_region 4 with (fail)
  obtain ⟨X, hX⟩ : ∃ X, w2.heap.size = X := ⟨_, rfl⟩
  obtain ⟨W3, hW3⟩ : ∃ W3, w2.alloc (.cells #[.slice A i.cfg.sizes.length c, .int .i64 i.cfg.shift, .int .i64 i.cfg.rate, .int .i64 i.cfg.mom, .int .i64 i.cfg.workers, .int .i64 i.cfg.batch, .int .i64 i.cfg.micros, .int .i64 i.cfg.steps, .int .i64 i.cfg.bucket, .int .i64 i.cfg.chunk, .int .i64 i.cfg.window, .int .i64 i.cfg.cap, .slice D i.data.length cd, .slice T i.start.length ct, .slice R i.draws.length cr] 29) = W3 := ⟨_, rfl⟩
  have h3 : W3.heap[X]? = some (.cells #[.slice A i.cfg.sizes.length c, .int .i64 i.cfg.shift, .int .i64 i.cfg.rate, .int .i64 i.cfg.mom, .int .i64 i.cfg.workers, .int .i64 i.cfg.batch, .int .i64 i.cfg.micros, .int .i64 i.cfg.steps, .int .i64 i.cfg.bucket, .int .i64 i.cfg.chunk, .int .i64 i.cfg.window, .int .i64 i.cfg.cap, .slice D i.data.length cd, .slice T i.start.length ct, .slice R i.draws.length cr] 29 (0, 0)) := by rw [← hW3]; exact blk_new w2 _ _ hX
  have q3 : Below W1.heap.size W1 W3 := by rw [← hW3]; exact q2.alloc q2.size _
  have gX : W1.heap.size ≤ X := by rw [← hX]; exact q2.size
  have g3 : X < W3.heap.size := lt_of_block h3
  rw [hX, hW3]
  have H3 := Lib.hid h3
  clear hX hW3 q2 h3
  refine HA.g (fun w' : World => Below W1.heap.size W1 w') ?_
  refine HA.t ?_ [0, 1, 3, 4, 6, 7] q3.drew ?_
  refine HA.c 2 (Hcx.out _ (Hx.out _ q3.drew) Hs.out) ?_
  rintro _ w4 ⟨v4, rfl, m4⟩
  obtain ⟨D1, e1, rfl⟩ := m4.form
  have k4 := m4.b
  have q4 := bt q3.drew k4
  refine ⟨_, rfl, q4, fun _ => ?_⟩
  refine HA.t ?_ [9] q4 ?_
  refine HA.c 5 (Hcs.out w4 (Hx.out _ q4)) ?_
  rintro _ w5 ⟨T1, f1, rfl, o5, k5⟩
  have q5 := bt q4 k5
  refine ⟨_, rfl, q5, fun _ => ?_⟩
  refine HA.c 8 (Hcu.out w5 (Hx.out _ q5)) ?_
  rintro _ w6 ⟨v6, rfl, o6, k6⟩
  obtain ⟨R1, g1, rfl, _⟩ := own_form o6
  have q6 := bt q5 k6
  refine ⟨_, rfl, q6, fun _ => ?_⟩
  have m6 := (m4.below k5).below k6
  have o56 := own_below o5 k6
  have k36 : Below W3.heap.size W3 w6 := bt (bt (br W3).drew (bt k4 k5)) k6
  have h6 := sb H3.out _ k36
  obtain ⟨rows4, rr4, _⟩ := m4
  have e12 : ∀ j k, (Value.slice D1 i.data.length e1).ownBlock = some j → (Value.slice T1 i.start.length f1).ownBlock = some k → j < k := fun j k hj hk => by have := (rr4.lt j hj).2; have := (o5.lt k hk).1; omega
  have e23 : ∀ j k, (Value.slice T1 i.start.length f1).ownBlock = some j → (Value.slice R1 i.draws.length g1).ownBlock = some k → j < k := fun j k hj hk => by have := (o5.lt j hj).2; have := (o6.lt k hk).1; omega
  have E12 := Lib.hid e12; have E23 := Lib.hid e23
  clear e12 e23
  have hf1 : i.start.length ≤ f1 := by obtain ⟨_, _, e, h⟩ := own_form o5; simp only [Value.slice.injEq] at e; omega
  have h36 := k36.size
  have h34 := k4.size
  have h45 := k5.size
  have u6 := bx15 h6
  refine HA.s 10 (w6.setCell ⟨X, 12, none⟩ (.slice D1 i.data.length e1)) (q6.setCell gX _) ?_
  refine HA.t ?_ [11] (q6.setCell gX _) ?_
  refine HA.s 12 ((w6.setCell ⟨X, 12, none⟩ (.slice D1 i.data.length e1)).setCell ⟨X, 13, none⟩ (.slice T1 i.start.length f1)) ((q6.setCell gX _).setCell gX _) ?_
  refine HA.t ?_ [13] ((q6.setCell gX _).setCell gX _) ?_
  refine HA.s 14 (((w6.setCell ⟨X, 12, none⟩ (.slice D1 i.data.length e1)).setCell ⟨X, 13, none⟩ (.slice T1 i.start.length f1)).setCell ⟨X, 14, none⟩ (.slice R1 i.draws.length g1)) (((q6.setCell gX _).setCell gX _).setCell gX _) ?_
  refine HA.d ?_
  clear u6
  have h7 : (((w6.setCell ⟨X, 12, none⟩ (.slice D1 i.data.length e1)).setCell ⟨X, 13, none⟩ (.slice T1 i.start.length f1)).setCell ⟨X, 14, none⟩ (.slice R1 i.draws.length g1)).heap[X]? = some (.cells #[.slice A i.cfg.sizes.length c, .int .i64 i.cfg.shift, .int .i64 i.cfg.rate, .int .i64 i.cfg.mom, .int .i64 i.cfg.workers, .int .i64 i.cfg.batch, .int .i64 i.cfg.micros, .int .i64 i.cfg.steps, .int .i64 i.cfg.bucket, .int .i64 i.cfg.chunk, .int .i64 i.cfg.window, .int .i64 i.cfg.cap, .slice D1 i.data.length e1, .slice T1 i.start.length f1, .slice R1 i.draws.length g1] 29 (0, 0)) := ss3 h6
  have q7 : Below W1.heap.size W1 (((w6.setCell ⟨X, 12, none⟩ (.slice D1 i.data.length e1)).setCell ⟨X, 13, none⟩ (.slice T1 i.start.length f1)).setCell ⟨X, 14, none⟩ (.slice R1 i.draws.length g1)) := ((q6.setCell gX _).setCell gX _).setCell gX _
  have kX : Keep (fun j => j = X) w6 (((w6.setCell ⟨X, 12, none⟩ (.slice D1 i.data.length e1)).setCell ⟨X, 13, none⟩ (.slice T1 i.start.length f1)).setCell ⟨X, 14, none⟩ (.slice R1 i.draws.length g1)) := Keep.setCell (S := fun j => j = X) (Keep.setCell (S := fun j => j = X) (Keep.setCell (S := fun j => j = X) (Keep.refl _ _) _ (.inr rfl) _) _ (.inr rfl) _) _ (.inr rfl) _
  generalize ((w6.setCell ⟨X, 12, none⟩ (.slice D1 i.data.length e1)).setCell ⟨X, 13, none⟩ (.slice T1 i.start.length f1)).setCell ⟨X, 14, none⟩ (.slice R1 i.draws.length g1) = W7 at h7 q7 kX ⊢
  have aX : Agr W3.heap.size w6 W7 := fun k hB hl => kX.block k hl (by omega)
  have d7 : SlRd rEx 2 W7 D1 i.data := top_sl tops_ex (m6.doneT rfl : SlRd rEx 2 (topW W3.heap.size w6) D1 i.data) aX
  obtain ⟨rows, rr, _⟩ := m6
  have rb : W3.heap.size = W3.drew.heap.size := rfl
  have a1 : ARow 64 2 W7 W3.heap.size (.slice D1 i.data.length e1) i.data.length := ARow.keep ⟨_, rr⟩ kX (fun j hj e => by have := (rr.lt j hj).1; omega)
  have o7 := kX.own o56 (fun j hj e => by have := (o56.lt j hj).1; omega)
  have u7 := kX.own o6 (fun j hj e => by have := (o6.lt j hj).1; omega)
  have a2 : KRow .i64 2 W7 W3.heap.size (.slice T1 i.start.length f1) i.start.length := ⟨_, own_base o7 (by omega)⟩
  have a3 : KRow .u64 62 W7 W3.heap.size (.slice R1 i.draws.length g1) i.draws.length := ⟨_, own_base u7 (by omega)⟩
  have hR := Hown.out D1 T1 f1 R1 W7 (Hx.out _ q7) Hs.out d7 (Rd.own o7) hf1 (Rd.own u7)
  have hbad := fun h => sernew_bad A c D1 e1 T1 f1 R1 g1 i W7 hR h
  have hgood := fun h => sernew_goodT A c D1 e1 T1 f1 R1 g1 i W7 hR h
  have htb := fun w' (q : Below W1.heap.size W1 w') h => rtrain_bad A c D cd T ct R cr i w' (Hrd.out w' (Hx.out _ q) Hs.out) h
  have htg := fun w' (q : Below W1.heap.size W1 w') h => rtrain_goodT A c D cd T ct R cr i w' (Hrd.out w' (Hx.out _ q) Hs.out) h
  have hzz := Hz.out
  unfold RTrainIs at htb
  unfold RTrainT at htg
  obtain ⟨TT, hTT⟩ : ∃ TT, i.cfg.steps.toNat = TT := ⟨_, rfl⟩
  simp only [hTT] at htg
  have HTT := Lib.hid hTT
  clear hTT
  simp only [hzz] at hbad htb
  dsimp only [inpVals] at hbad hgood htb htg
  clear hzz
  have Hbad := Lib.hid hbad; have Hgood := Lib.hid hgood; have Htb := Lib.hid htb; have Htg := Lib.hid htg; have A1 := Lib.hid a1; have A2 := Lib.hid a2; have A3 := Lib.hid a3; have H7 := Lib.hid h7
  have x := fun w' q => bx15 (sb h7 w' q)
  have xl := sl h7
  clear hbad hgood htb htg a1 a2 a3 h7 hR d7 rr o7 u7 o6 o56 o5 aX kX rb k36 h6 rr4 k4 k5 k6 q3 q4 q5 q6 hf1 h34 h45 h36
  have j7 := br W7
  by_cases hz0 : z ≠ 0
  · have hzb : (z != 0) = true := by rw [bne_iff_ne]; exact hz0
    go_wp2_with fail
    refine (Hbad.out hz0).mono ?_
    rintro e w8 ⟨rfl, k8⟩
    have q8 := bt q7 k8
    go_wp2_with fail
    refine (Htb.out w8 q8 hz0).mono ?_
    rintro e w9 ⟨k9, h⟩
    rcases h with ⟨hg, _⟩ | ⟨_, rfl⟩
    · exact absurd (Hz.out.symm.trans (in_good.2 hg)) hz0
    have q9 := bt q8 k9
    go_wp2_with fail
    refine (Hal.out _ q9).mono ?_
    rintro e w10 ⟨rfl, h10⟩
    go_wp2_with fail
    go_ret
    exact ⟨rfl, h10⟩
  obtain rfl : z = 0 := by omega
  have HG := Lib.hid (in_good.1 Hz.out)
  clear hz0
  go_wp2_with fail
  refine (Hgood.out HG.out).mono ?_
  rintro e w8 ⟨b, rfl, n8, l8, k8⟩
  have q8 := bt q7 k8
  have j8 := bt j7 k8
  go_wp2_with fail
  refine (Htg.out w8 q8 HG.out).mono ?_
  rintro e w9 ⟨k9, A9, c9, base9, rfl, m9, hbase⟩
  have q9 := bt q8 k9
  have j9 := bt j8 k9
  have hs := Hs.out
  have hg := HG.out
  have hN1 : 0 < i.data.length := by have := hg.b; have := hg.c.w; have := hg.c.ba; omega
  have hN2 : 0 < i.start.length := by rw [hg.s]; exact cnt_pos hg.c.z
  have B1 : i.data.length ≤ 60 := hs.1
  have B2 : i.start.length ≤ 600 := hs.2.1
  have B3 : i.draws.length ≤ 2000 := hs.2.2.1
  obtain ⟨gd, rfl⟩ := A1.out.form hN1
  obtain ⟨gt, rfl⟩ := A2.out.any.form hN2
  have c1 := A1.out.below j9
  have c2 := A2.out.below j9
  have c3 := A3.out.below j9
  have G1 := A1.out.lt gd rfl
  have G2 := A2.out.any.lt gt rfl
  have G3 := A3.out.any.lt
  have h9 := sb H7.out _ j9
  have l9 := lt_of_block h9
  have lb8 : b < w8.heap.size := by
    obtain ⟨_, _, _, _, _, _, _, _, _, h0, _⟩ := n8
    exact lt_of_block h0
  have C1 := Lib.hid c1; have C2 := Lib.hid c2; have C3 := Lib.hid c3; have H9 := Lib.hid h9; have N8 := Lib.hid n8; have M9 := Lib.hid m9; have G3' := Lib.hid G3
  have y := fun w' (h : Keep (fun j => j = gd) w9 w') => bx15 ((h.block X (lt_of_block H9.out) (by omega)).trans H9.out)
  have K9 := Keep.refl (fun j => j = gd) w9
  clear x xl c1 c2 c3 n8 m9 h9 hs hg G3
  go_wp2_with fail
  go_loopw [62] (fun v wr => ∃ k : Nat, k ≤ i.data.length ∧ v = .int .i64 k ∧ Keep (fun j => j = gd) w9 wr ∧ ARow 64 2 wr W3.heap.size (.slice (some ⟨gd, 0, none⟩) i.data.length e1) i.data.length) (fun v _ => i.data.length - (intOf v).toNat)
  case atStart => exact ⟨0, Nat.zero_le _, rfl, Keep.refl _ _, C1.out⟩
  case round =>
    obtain ⟨k, hk, rfl, K10, a10⟩ := hrel
    by_cases hlt : k < i.data.length
    · obtain ⟨u, p1, f1'⟩ := a10.cell (show k * 2 < i.data.length * 2 by omega)
      have hkl : (k : Int) < i.data.length := by omega
      have HA10 := Lib.hid a10
      clear a10
      go_wp2_with fail
      go_roundw
      case rel => exact ⟨k + 1, by omega, by go_num, Keep.setCell (S := fun j => j = gd) K10 _ (.inr rfl) _, HA10.out.put _ _⟩
      case measure => simp [intOf]; omega
    · have hkl : ¬ ((k : Int) < i.data.length) := by omega
      obtain ⟨wq, rfl⟩ : ∃ wq : World, wq = wr := ⟨_, rfl⟩
      have h10 := (K10.block X l9 (by omega)).trans H9.out
      have b2 := C2.out.keep K10 (fun j hj e => by have := E12.out gd j rfl hj; omega)
      have b3 := C3.out.keep K10 (fun j hj e => by have := E12.out gd gt rfl rfl; have := E23.out gt j rfl hj; omega)
      have H10 := Lib.hid h10; have D2 := Lib.hid b2; have D3 := Lib.hid b3; have K10' := Lib.hid K10
      have y2 := fun w' (h : Keep (fun j => j = gt) wq w') => bx15 ((h.block X (lt_of_block H10.out) (by omega)).trans H10.out)
      clear b2 b3 h10 a10
      have K11 := Keep.refl (fun j => j = gt) wq
      clear y K9
      go_wp2_with fail
      go_loopw [74] (fun v wr => ∃ k : Nat, k ≤ i.start.length ∧ v = .int .i64 k ∧ Keep (fun j => j = gt) wq wr ∧ KRow .i64 2 wr W3.heap.size (.slice (some ⟨gt, 0, none⟩) i.start.length f1) i.start.length) (fun v _ => i.start.length - (intOf v).toNat)
      case atStart => exact ⟨0, Nat.zero_le _, rfl, Keep.refl _ _, D2.out⟩
      case round =>
        obtain ⟨k, hk, rfl, K12, a12⟩ := hrel
        by_cases hlt : k < i.start.length
        · obtain ⟨u, p1, f1'⟩ := a12.cell hlt
          have hkl : (k : Int) < i.start.length := by omega
          have HA12 := Lib.hid a12
          clear a12
          go_wp2_with fail
          go_roundw
          case rel => exact ⟨k + 1, by omega, by go_num, Keep.setCell (S := fun j => j = gt) K12 _ (.inr rfl) _, HA12.out.put _ _⟩
          case measure => simp [intOf]; omega
        · have hkl : ¬ ((k : Int) < i.start.length) := by omega
          obtain ⟨wp, rfl⟩ : ∃ wp : World, wp = wr := ⟨_, rfl⟩
          have l10 := lt_of_block H10.out
          have h12 := (K12.block X l10 (by omega)).trans H10.out
          have b3 := D3.out.keep K12 (fun j hj e => by have := E23.out gt j rfl hj; omega)
          have H12 := Lib.hid h12; have F3 := Lib.hid b3; have K12' := Lib.hid K12
          have y3 := fun w' (h : Keep (fun j => (Value.slice R1 i.draws.length g1).ownBlock = some j) wp w') => bx15 ((h.block X (lt_of_block H12.out) (fun e => by have := (G3'.out X e).1; omega)).trans H12.out)
          have K13 := Keep.refl (fun j => (Value.slice R1 i.draws.length g1).ownBlock = some j) wp
          clear b3 h12 a12 y2 K11 l10
          go_wp2_with fail
          go_loopw [88] (fun v wr => ∃ k : Nat, k ≤ i.draws.length ∧ v = .int .i64 k ∧ Keep (fun j => (Value.slice R1 i.draws.length g1).ownBlock = some j) wp wr ∧ KRow .u64 62 wr W3.heap.size (.slice R1 i.draws.length g1) i.draws.length) (fun v _ => i.draws.length - (intOf v).toNat)
          case atStart => exact ⟨0, Nat.zero_le _, rfl, Keep.refl _ _, F3.out⟩
          case round =>
            obtain ⟨k, hk, rfl, K14, a14⟩ := hrel
            by_cases hlt : k < i.draws.length
            · obtain ⟨gr, rfl⟩ := a14.any.form (by omega)
              obtain ⟨u, p1, f1'⟩ := a14.cell hlt
              have hkl : (k : Int) < i.draws.length := by omega
              have HA14 := Lib.hid a14
              clear a14
              go_wp2_with fail
              go_roundw
              case rel => exact ⟨k + 1, by omega, by go_num, Keep.setCell (S := fun j => (Value.slice (some ⟨gr, 0, none⟩) i.draws.length g1).ownBlock = some j) K14 ⟨gr, k, none⟩ (.inr rfl) _, HA14.out.put _ _⟩
              case measure => simp [intOf]; omega
            · have hkl : ¬ ((k : Int) < i.draws.length) := by omega
              obtain ⟨V, rfl⟩ : ∃ V : World, V = wr := ⟨_, rfl⟩
              have kA : Keep (fun j => X < j ∧ j < W7.heap.size) w9 wq := K10'.out.mono fun j _ e => by subst e; exact ⟨by omega, G1.2⟩
              have kB : Keep (fun j => X < j ∧ j < W7.heap.size) wq wp := K12'.out.mono fun j _ e => by subst e; exact ⟨by omega, G2.2⟩
              have kC : Keep (fun j => X < j ∧ j < W7.heap.size) wp V := K14.mono fun j _ e => by have := G3'.out j e; exact ⟨by omega, this.2⟩
              have kall := (kA.trans kB).trans kC
              have hr := N8.out.run (((Keep.below k9).trans kall).mono fun j _ h => h.2)
              have j78 := j8.size
              have hm := M9.out.old (S := fun j => X < j ∧ j < W7.heap.size) (fun a ha h => by have := HTb.out hN2 a ha; have := Hs1.out; omega) (fun j h => by omega) hbase kall
              have hq := Hx.out _ q9
              have qV := hq.trans (kall.toBelow hq.size fun j h => by have := Hs1.out; omega)
              have HRun := Lib.hid hr; have HM := Lib.hid hm; have HQ := Lib.hid qV
              clear kA kB kC kall hr hm hq qV a14 K14 y3 K13
              have hr3 : ∃ r : Nat, r ≤ 2 ∧ nn % 3 = (r : Int) := ⟨(nn % 3).toNat, by omega, by omega⟩
              obtain ⟨r3, hr3b, hr3⟩ := hr3
              have hr3' : nn.tmod 3 = (r3 : Int) := by rw [Int.tmod_eq_emod_of_nonneg hnb.1]; exact hr3
              have hnw : IntKind.i64.wrap nn = nn := IntWalk.i64_in _ (by omega)
              have hTb : TT ≤ 1048576 := by have := HG.out.c.st; have := HTT.out; omega
              go_wp2_with fail
              clear hr3 hr3' hnw hkl hlt hk
              go_loopw [105] (fun v wr => ∃ k : Nat, k ≤ TT + 1 + r3 ∧ v = .int .i64 k ∧ RunAt wr b i (traj i (min k TT)).1 (traj i (min k TT)).2 (min k TT) ∧ Keep (fun j => j = b) V wr) (fun v _ => TT + 1 + r3 - (intOf v).toNat)
              case atStart => exact ⟨0, Nat.zero_le _, rfl, by rw [Nat.zero_min]; exact HRun.out, Keep.refl _ _⟩
              case round =>
                obtain ⟨k, hk, rfl, hRk, hKb⟩ := hrel
                by_cases hlt : k < TT + 1 + r3
                · have hkl : (k : Int) < (TT : Int) + 1 + r3 := by omega
                  obtain ⟨kk, hkk⟩ : ∃ kk, min k TT = kk := ⟨_, rfl⟩
                  rw [hkk] at hRk
                  have hkb : kk ≤ TT := by omega
                  have Hkk := Lib.hid hkk; have HRk := Lib.hid hRk; have HKb := Lib.hid hKb
                  clear hkk hRk hKb
                  go_upto_region 28 with (fail)
                  have hmin : (if TT < k then (TT : Int) else (k : Int)) = (kk : Int) := by have := Hkk.out; split <;> omega
                  rw [hmin]
                  clear hmin
                  have hTne : ∀ a, T = some a → ¬ a.block = b := fun a ha h => by have := HTb.out hN2 a ha; have := Hs1.out; have := q7.size; omega
                  have hold : ∀ j, j = b → j < w8.heap.size := fun j h => by omega
                  obtain ⟨gw, Aw1, cw1, Aw2, cw2, rfl, hgw, x1, x2, hnum⟩ := (HM.out.old (S := fun j => j = b) hTne hold hbase HKb.out).at (show kk < TT + 1 by omega)
                  have hcw := fun w' (h : Keep (fun j => j = b) wr w') => And.intro (h.cell x1 (show ¬ gw = b by omega)) (h.cell x2 (show ¬ gw = b by omega))
                  have hnum := hnum (fun j => j = b)
                  have hkb' : kk < TT + 1 := by omega
                  have hkbi : (kk : Int) < (TT : Int) + 1 := by omega
                  have hkbn : ¬ (TT + 1 ≤ kk) := by omega
                  have s0 : Keep (fun j => j = b) wr wr.drew := (Keep.refl _ _).drew
                  have hrd := HRk.out.below (br wr).drew
                  have hlen : (traj i kk).1.length = cnt i ∧ (traj i kk).2.length = cnt i := by
                    obtain ⟨_, _, _, _, _, _, _, _, _, _, _, _, _, _, _, _, _, e1, e2, _⟩ := hrd
                    exact ⟨e1, e2⟩
                  have hcb : cnt i ≤ 1048576 := HG.out.c.z.bound (k := i.cfg.sizes.length - 1) (by have := HG.out.c.z.1.1; omega)
                  have hst := state_any b kk i _ _ _ hrd hcb
                  have htw := traj_W64 i HI.out.t.hw kk
                  unfold StateIs at hst
                  have Hst := Lib.hid hst; have Hrd := Lib.hid hrd; have Hnum := Lib.hid hnum; have Htw := Lib.hid htw; have HTne := Lib.hid hTne; have Hold := Lib.hid hold
                  clear hst hrd hnum htw x1 x2 hTne hold
                  refine HA.g (fun w' : World => Keep (fun j => j = b) wr w') ?_
                  refine HA.t ?_ [0, 2] s0 ?_
                  refine HA.c 1 (steps_any b kk i _ _ _ Hrd.out) ?_
                  rintro _ w13 ⟨rfl, rfl⟩
                  refine ⟨_, rfl, s0, fun _ => ?_⟩
                  refine HA.t ?_ [3, 4, 5, 8, 9, 10, 11] s0 ?_
                  refine HA.c 6 Hst.out ?_
                  rintro _ w14 ⟨Z1, m1, Z2, m2, rfl, hm1, hm2, u1, u2, _, k14⟩
                  have s14 := s0.trans (Keep.below k14)
                  refine ⟨_, rfl, s14, fun _ => ?_⟩
                  refine HA.c 7 (back_any Z1 Z2 (cnt i) m1 (cnt i) m2 _) ?_
                  rintro _ w15 ⟨rfl, k15⟩
                  have s15 := s14.trans (Keep.below k15)
                  refine ⟨_, rfl, s15, fun _ => ?_⟩
                  have hw15 := Hnum.out w15 HTne.out Hold.out s15
                  have hsa := stsame_any Z1 Z2 Aw1 Aw2 (traj i kk).1 (traj i kk).2 (traj i kk).1 (traj i kk).2 m1 m2 cw1 cw2 w15 ⟨by omega, by omega, (Rd.own u1).below k15, Htw.out.1⟩ ⟨by omega, by omega, (Rd.own u2).below k15, Htw.out.2⟩ hw15.1 hw15.2
                  simp only [decide_true, Bool.and_self, hlen.1, hlen.2] at hsa
                  clear hw15 u1 u2 hm1 hm2
                  have hl1 := hlen.1
                  have hl2 := hlen.2
                  refine HA.c 12 hsa ?_
                  clear hsa hl1 hl2
                  rintro _ w16 ⟨rfl, k16⟩
                  have s16 := s15.trans (Keep.below k16)
                  refine ⟨_, rfl, s16, fun _ => ?_⟩
                  have hr16 := Hrd.out.below (bt (bt k14 k15) k16)
                  have Hr16 := Lib.hid hr16
                  clear hr16 s0 s14 s15 k14 k15 k16 hcw hlen
                  have hw5 : IntKind.i64.wrap (TT : Int) = (TT : Int) := IntWalk.i64_in _ (by omega)
                  by_cases hlst : kk < TT
                  · obtain rfl : kk = k := by have := Hkk.out; omega
                    have hlsti : (kk : Int) < TT := by omega
                    refine HA.t ?_ [13, 14, 15, 16, 18, 19, 20, 21, 22] s16 ?_
                    refine HA.c 17 (step_any b kk i _ _ w16 Hr16.out HG.out (by rw [HTT.out]; exact hlst) HI.out.ra HI.out.rm) ?_
                    rintro _ w17 ⟨rfl, r17, k17⟩
                    have s17 := s16.trans k17
                    refine ⟨_, rfl, s17, fun _ => ?_⟩
                    have R17 := Lib.hid r17
                    clear r17 k17
                    refine HA.t ?_ [23, 24] s17 ?_
                    refine HA.d ?_
                    have S17 := Lib.hid (HKb.out.trans s17)
                    go_wp2_with fail
                    go_roundw
                    case rel => exact ⟨kk + 1, by omega, by go_num, by rw [show min (kk + 1) TT = kk + 1 by omega]; exact R17.out, S17.out⟩
                    case measure => simp [intOf]; omega
                  · obtain rfl : kk = TT := by omega
                    have hkk2 : kk ≤ k := by have := Hkk.out; omega
                    have hlsti : ¬ ((k : Int) < kk) := by omega
                    refine HA.t ?_ [13, 14, 15, 16, 18, 19, 20, 21, 22] s16 ?_
                    refine HA.c 17 (step_end b kk i _ _ w16 Hr16.out (by rw [HTT.out]; omega)) ?_
                    rintro _ w17 ⟨rfl, d17, rfl⟩
                    have s17 := s16.drewN d17
                    refine ⟨_, rfl, s17, fun _ => ?_⟩
                    refine HA.t ?_ [23, 24] s17 ?_
                    refine HA.d ?_
                    have S17 := Lib.hid (HKb.out.trans s17)
                    have R17 := Lib.hid (Hr16.out.below (below_drewN (br _) d17))
                    go_wp2_with fail
                    go_roundw
                    case rel => exact ⟨k + 1, by omega, by go_num, by rw [show min (k + 1) kk = kk by omega]; exact R17.out, S17.out⟩
                    case measure => simp [intOf]; omega
                · have hkl : ¬ ((k : Int) < (TT : Int) + 1 + r3) := by omega
                  have hqz := HQ.out.trans (hKb.toBelow HQ.out.size fun j e => by have := q7.size; have := Hs1.out; omega)
                  have HQz := Lib.hid hqz
                  clear hRk hKb hqz
                  go_wp2_with fail
                  refine (alive14_any _).mono ?_
                  rintro e wz ⟨rfl, kz⟩
                  have hqz := HQz.out.trans (kz.mono HQz.out.size)
                  go_wp2_with fail
                  go_ret
                  exact ⟨rfl, hqz⟩
end Go.Proofs.YtfiojofcafjfeaaGreat
