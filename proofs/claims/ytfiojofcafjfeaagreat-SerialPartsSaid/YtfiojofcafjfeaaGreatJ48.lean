/- The walk of SerialGradients. No condition. -/
import Derived.Test.YtfiojofcafjfeaaGreatJ45
import Derived.Test.YtfiojofcafjfeaaGreatJ47
import Derived.Test.YtfiojofcafjfeaaGreatJ29
set_option linter.unusedSimpArgs false
set_option linter.unusedVariables false
namespace Go.Proofs.YtfiojofcafjfeaaGreat
open Go.RowKit Go.ChangeShapes Go.WideShapes Go.ChangeAt

set_option maxRecDepth 100000 in
theorem open_ints {H : Type} {enc : TypeId × Value → H} {W : World} {base : Nat} {v : Value} {d : DataW H} {p : List MemPlace} (o : Value.okWide Tryz.prog W .any base 22 v) (h : DataW.Trod enc Tryz.prog W 0 (fun _ => true) true 22 v d p) (z : Light Tryz.prog 22 d) :
    ∃ (A : Option Addr) (l : List Int) (c : Nat), v = .slice A l.length c ∧ NumsIn W A l c := by
  obtain ⟨a, len, cap, rfl⟩ := okWide_slice Tryz.underlying22 o
  obtain ⟨l, ⟨A, c, e, h1, h2, h3, h4, h5⟩, _⟩ := opens_param opens_ints h z
  simp [Value.cells] at e
  obtain ⟨rfl, rfl, rfl⟩ := e
  exact ⟨_, l, _, rfl, ⟨h1, h2, h3, h4, wf_W64 h5⟩⟩
open Classical in
noncomputable def okR (i : Inp) (idx : List Int) : Bool := decide (allGood i idx)
open Classical in
noncomputable def gradR (i : Inp) (P idx : List Int) : List Int := if allGood i idx then gradAcc i P (pickL i.data idx) else []
open Classical in
noncomputable def lossR (i : Inp) (P idx : List Int) : Int := if allGood i idx then lossAcc i P (pickL i.data idx) else 0
theorem okR_t {i : Inp} {idx : List Int} (h : allGood i idx) : okR i idx = true := by unfold okR; simp [h]
theorem okR_f {i : Inp} {idx : List Int} (h : ¬ allGood i idx) : okR i idx = false := by unfold okR; simp [h]
def GrRes (i : Inp) (P idx : List Int) (w : World) (e : Ending) (w' : World) : Prop := ∃ A c, e = .returned (.tuple #[.slice A (gradR i P idx).length c, .bool (okR i idx)]) ∧ Rd w' A (nums .i64 (gradR i P idx)) ∧ Below w.heap.size w w'
def LsRes (i : Inp) (P idx : List Int) (w : World) (e : Ending) (w' : World) : Prop := e = .returned (.tuple #[.int .i64 (lossR i P idx), .bool (okR i idx)]) ∧ Below w.heap.size w w'
theorem gradR_len (i : Inp) (P idx : List Int) (h : cnt i ≤ 1048576) : (gradR i P idx).length ≤ 1048576 := by
  unfold gradR; split
  · rw [gradAcc_len]; exact h
  · simp
theorem RGradIs.res {i : Inp} {P idx : List Int} {w w' : World} {e : Ending} (h : RGradIs i P idx (cnt i) w e w') : GrRes i P idx w e w' := by
  obtain ⟨hb, ⟨hg, A, c, rfl, _, ho⟩ | ⟨hng, rfl⟩⟩ := h
  · exact ⟨A, c, by rw [okR_t hg]; unfold gradR; rw [if_pos hg, gradAcc_len], by unfold gradR; rw [if_pos hg]; exact Rd.own ho, hb⟩
  · exact ⟨none, 0, by rw [okR_f hng]; unfold gradR; rw [if_neg hng]; rfl, by unfold gradR; rw [if_neg hng]; exact Rd.nil _ _, hb⟩
theorem RGrad14Is.res {i : Inp} {P idx : List Int} {w w' : World} {e : Ending} (h : RGrad14Is i P idx w e w') : GrRes i P idx w e w' := by
  obtain ⟨hb, ⟨hg, v, rfl, ho⟩ | ⟨hng, rfl⟩⟩ := h
  · obtain ⟨A, c, rfl, _⟩ := own_form ho
    exact ⟨A, c, by rw [okR_t hg]; unfold gradR; rw [if_pos hg, gradAcc_len], by unfold gradR; rw [if_pos hg]; exact Rd.own ho, hb⟩
  · exact ⟨none, 0, by rw [okR_f hng]; unfold gradR; rw [if_neg hng]; rfl, by unfold gradR; rw [if_neg hng]; exact Rd.nil _ _, hb⟩
theorem RLossIs.res {i : Inp} {P idx : List Int} {w w' : World} {e : Ending} (h : RLossIs i P idx w e w') : LsRes i P idx w e w' := by
  obtain ⟨hb, ⟨hg, rfl⟩ | ⟨hng, rfl⟩⟩ := h
  · exact ⟨by rw [okR_t hg]; unfold lossR; rw [if_pos hg], hb⟩
  · exact ⟨by rw [okR_f hng]; unfold lossR; rw [if_neg hng], hb⟩
theorem RLoss14Is.res {i : Inp} {P idx : List Int} {w w' : World} {e : Ending} (h : RLoss14Is i P idx w e w') : LsRes i P idx w e w' := by
  obtain ⟨hb, ⟨hg, rfl⟩ | ⟨hng, rfl⟩⟩ := h
  · exact ⟨by rw [okR_t hg]; unfold lossR; rw [if_pos hg], hb⟩
  · exact ⟨by rw [okR_f hng]; unfold lossR; rw [if_neg hng], hb⟩

set_option maxRecDepth 100000 in
set_option maxHeartbeats 1000000 in
theorem SerialGradients_walk {H : Type} {enc : TypeId × Value → H} {base : Nat} {v0 v1 : Value} {d0 d1 : DataW H} {p0 p1 : List MemPlace} (W : World)
    (o0 : Value.okWide Tryz.prog W .any base 29 v0) (h0 : DataW.Trod enc Tryz.prog W 0 (fun _ => true) true 29 v0 d0 p0) (z0 : Light Tryz.prog 29 d0)
    (o1 : Value.okWide Tryz.prog W .any base 22 v1) (h1 : DataW.Trod enc Tryz.prog W 0 (fun _ => true) true 22 v1 d1 p1) (z1 : Light Tryz.prog 22 d1) :
    Calls Tryz.prog 7 #[v0, v1] W fun e w' => e = .returned (.bool true) ∧ Below W.heap.size W w' := by
  obtain ⟨A, c, D, cd, T, ct, R, cr, i, rfl, hI, _⟩ := open_inp o0 h0 z0
  obtain ⟨B, idx, d, rfl, hN⟩ := open_ints o1 h1 z1
  clear o0 h0 z0 o1 h1 z1
  have hfew := fun w' (q : Below W.heap.size W w') => fewrun_any A c D cd T ct R cr i w' (hI.below q)
  have hin := fun w' (q : Below W.heap.size W w') (hs : SmallI i) => rinput_any A c D cd T ct R cr i w' ((hI.below q).rd hs)
  have hnew := fun w' (q : Below W.heap.size W w') (hs : SmallI i) (hg : GoodIn i) => sernew_good A c D cd T ct R cr i w' ((hI.below q).rd hs) hg
  have hgr := fun b w' (q : Below W.heap.size W w') (hr : RunAt w' b i i.start (List.replicate (cnt i) 0) 0) (hg : GoodIn i) (hl : idx.length ≤ 40) => (rgradient_any b 0 d B i i.start _ idx w' hr hg hI.t.hw (hN.hr.below q) (by omega)).mono (fun _ _ h => h.res)
  have hls := fun b w' (q : Below W.heap.size W w') (hr : RunAt w' b i i.start (List.replicate (cnt i) 0) 0) (hg : GoodIn i) (hl : idx.length ≤ 40) => (rloss_any b 0 d B i i.start _ idx w' hr hg hI.t.hw (hN.hr.below q) (by omega)).mono (fun _ _ h => h.res)
  have hg14 := fun w' (q : Below W.heap.size W w') (hg : GoodIn i) => (rgrad14_any A c D cd T ct R cr i T B i.start idx i.start.length ct d w' (hI.c.hr.below q) hI.c.hc (hI.d.below stays_ex q) hg (hI.t.hr.below q) rfl hg.s.symm hI.t.hw (hN.hr.below q) hN.hl).mono (fun _ _ h => h.res)
  have hl14 := fun w' (q : Below W.heap.size W w') (hg : GoodIn i) => (rloss14_any A c D cd T ct R cr i T B i.start idx i.start.length ct d w' (hI.c.hr.below q) hI.c.hc (hI.d.below stays_ex q) hg (hI.t.hr.below q) rfl hg.s.symm hI.t.hw (hN.hr.below q) hN.hl).mono (fun _ _ h => h.res)
  have hal := fun w' => alive14_any w'
  have hsm := fun w' (hg : GoodIn i) A1 A2 c1 c2 (h1 : Rd w' A1 (nums .i64 (gradR i i.start idx))) (h2 : Rd w' A2 (nums .i64 (gradR i i.start idx))) => same_any A1 A2 (gradR i i.start idx) (gradR i i.start idx) c1 c2 w' h1 h2 (by have := gradR_len i i.start idx (hg.c.z.bound (k := i.cfg.sizes.length - 1) (by have := hg.c.z.1.1; omega)); omega) (by have := gradR_len i i.start idx (hg.c.z.bound (k := i.cfg.sizes.length - 1) (by have := hg.c.z.1.1; omega)); omega)
  simp only [decide_true] at hsm
  unfold GrRes at hgr hg14
  unfold LsRes at hls hl14
  unfold FewI at hfew
  obtain ⟨m, hm⟩ : ∃ m, idx.length = m := ⟨_, rfl⟩
  obtain ⟨n, hn⟩ : ∃ n, (gradR i i.start idx).length = n := ⟨_, rfl⟩
  obtain ⟨ok, hok⟩ : ∃ ok, okR i idx = ok := ⟨_, rfl⟩
  obtain ⟨ls, hlsv⟩ : ∃ ls, lossR i i.start idx = ls := ⟨_, rfl⟩
  obtain ⟨z, hz⟩ : ∃ z, inCode i = z := ⟨_, rfl⟩
  have hgz : z = 0 → GoodIn i := fun e => in_good.1 (hz.trans e)
  simp only [hn, hm, hok, hlsv, hz] at hin hgr hls hg14 hl14 hsm ⊢
  dsimp only [inpVals] at hfew hin hnew hg14 hl14
  have hx := blk_new W (inpVals A c D cd T ct R cr i) 29 rfl
  have hB : Below W.heap.size W (W.alloc (.cells (inpVals A c D cd T ct R cr i) 29)) := (Below.refl _ W).alloc (Nat.le_refl _) _
  dsimp only [inpVals] at hx hB
  have Hfew := Lib.hid hfew; have Hin := Lib.hid hin; have Hnew := Lib.hid hnew; have Hgr := Lib.hid hgr; have Hls := Lib.hid hls; have Hg14 := Lib.hid hg14; have Hl14 := Lib.hid hl14; have Hal := Lib.hid hal; have Hsm := Lib.hid hsm; have HX := Lib.hid hx; have HB := Lib.hid hB; have Hgz := Lib.hid hgz
  clear hfew hin hnew hgr hls hg14 hl14 hal hsm hI hn hm hok hlsv hz hx hB hN hgz
  have hali : ∀ w' (q : Below W.heap.size W w'), Calls Tryz.prog 10 #[] w' fun e w'' => e = .returned (.bool true) ∧ Below W.heap.size W w'' := fun w' q => (Hal.out w').mono fun _ _ h => ⟨h.1, q.trans (h.2.mono q.size)⟩
  have Hali := Lib.hid hali; clear hali
  go_enter Tryz.func7, Tryz.ntmps7
  dsimp only [inpVals]
  go_wp2_with fail
  have hx := HX.out; have hB := HB.out
  generalize W.alloc _ = W1 at hx hB ⊢
  refine (Hfew.out W1 hB).mono ?_
  rintro e w2 ⟨⟨b, rfl, hbs⟩, hb2⟩
  have hB2 := hB.trans (hb2.mono hB.size)
  have hx2 := (hb2.block _ (lt_of_block hx)).trans hx
  have HB2 := Lib.hid hB2; have HX2 := Lib.hid hx2
  have hlx := lt_of_block hx2
  clear hb2 hB hx HX HB
  rcases bool_ft b with rfl | rfl
  · clear hbs hB2 hx2
    go_wp2_with fail
    refine (Hali.out _ HB2.out).mono ?_
    rintro e w3 ⟨rfl, hb3⟩
    have HB3 := Lib.hid hb3
    clear hb3
    go_wp2_with fail
    go_ret
    exact ⟨rfl, HB3.out⟩
  have Hs := Lib.hid (hbs rfl)
  have t0 := cell_of_row w2 _ 0 _ _ _ hx2
  have t1 := cell_of_row w2 _ 1 _ _ _ hx2
  have t2 := cell_of_row w2 _ 2 _ _ _ hx2
  have t3 := cell_of_row w2 _ 3 _ _ _ hx2
  have t4 := cell_of_row w2 _ 4 _ _ _ hx2
  have t5 := cell_of_row w2 _ 5 _ _ _ hx2
  have t6 := cell_of_row w2 _ 6 _ _ _ hx2
  have t7 := cell_of_row w2 _ 7 _ _ _ hx2
  have t8 := cell_of_row w2 _ 8 _ _ _ hx2
  have t9 := cell_of_row w2 _ 9 _ _ _ hx2
  have t10 := cell_of_row w2 _ 10 _ _ _ hx2
  have t11 := cell_of_row w2 _ 11 _ _ _ hx2
  have t12 := cell_of_row w2 _ 12 _ _ _ hx2
  have t13 := cell_of_row w2 _ 13 _ _ _ hx2
  have t14 := cell_of_row w2 _ 14 _ _ _ hx2
  have tf := fun j => frozen_of_row w2 _ j _ _ hx2
  clear hbs hB2 hx2
  go_wp2_with fail
  refine (Hin.out w2 HB2.out Hs.out).mono ?_
  rintro e w3 ⟨rfl, hb3⟩
  have hB3 := HB2.out.trans (hb3.mono HB2.out.size)
  have hx3 := (hb3.block _ hlx).trans HX2.out
  have HB3 := Lib.hid hB3; have HX3 := Lib.hid hx3
  have hlx := lt_of_block hx3
  clear t0 t1 t2 t3 t4 t5 t6 t7 t8 t9 t10 t11 t12 t13 t14 tf hb3 hB3 hx3 HX2 HB2
  by_cases hz0 : z ≠ 0
  · have hzb : (z != 0) = true := by rw [bne_iff_ne]; exact hz0
    go_wp2_with fail
    refine (Hali.out _ HB3.out).mono ?_
    rintro e w4 ⟨rfl, hb4⟩
    have HB4 := Lib.hid hb4
    clear hb4
    go_wp2_with fail
    go_ret
    exact ⟨rfl, HB4.out⟩
  obtain rfl : z = 0 := by omega
  have HG := Lib.hid (Hgz.out rfl)
  clear hz0
  by_cases hm40 : (40 : Int) < m
  · go_wp2_with fail
    refine (Hali.out _ HB3.out).mono ?_
    rintro e w4 ⟨rfl, hb4⟩
    have HB4 := Lib.hid hb4
    clear hb4
    go_wp2_with fail
    go_ret
    exact ⟨rfl, HB4.out⟩
  have hml : m ≤ 40 := by omega
  have Hml := Lib.hid hml
  have hx3 := HX3.out
  have t0 := cell_of_row w3 _ 0 _ _ _ hx3
  have t1 := cell_of_row w3 _ 1 _ _ _ hx3
  have t2 := cell_of_row w3 _ 2 _ _ _ hx3
  have t3 := cell_of_row w3 _ 3 _ _ _ hx3
  have t4 := cell_of_row w3 _ 4 _ _ _ hx3
  have t5 := cell_of_row w3 _ 5 _ _ _ hx3
  have t6 := cell_of_row w3 _ 6 _ _ _ hx3
  have t7 := cell_of_row w3 _ 7 _ _ _ hx3
  have t8 := cell_of_row w3 _ 8 _ _ _ hx3
  have t9 := cell_of_row w3 _ 9 _ _ _ hx3
  have t10 := cell_of_row w3 _ 10 _ _ _ hx3
  have t11 := cell_of_row w3 _ 11 _ _ _ hx3
  have t12 := cell_of_row w3 _ 12 _ _ _ hx3
  have t13 := cell_of_row w3 _ 13 _ _ _ hx3
  have t14 := cell_of_row w3 _ 14 _ _ _ hx3
  have tf := fun j => frozen_of_row w3 _ j _ _ hx3
  clear hx3 hml
  go_wp2_with fail
  refine (Hnew.out w3 HB3.out Hs.out HG.out).mono ?_
  rintro e w4 ⟨b, rfl, hR4, _, hb4⟩
  have hx4 := (hb4.block _ hlx).trans HX3.out
  have HR4 := Lib.hid hR4; have HB4 := Lib.hid (HB3.out.trans (hb4.mono HB3.out.size)); have HX4 := Lib.hid hx4
  clear t0 t1 t2 t3 t4 t5 t6 t7 t8 t9 t10 t11 t12 t13 t14 tf hR4 hb4 hx4 HX3 hlx HB3
  go_wp2_with fail
  refine (Hgr.out b w4 HB4.out HR4.out HG.out Hml.out).mono ?_
  rintro e w5 ⟨A5, c5, rfl, hr5, hb5⟩
  have HR5 := Lib.hid (HR4.out.below hb5); have HB5 := Lib.hid (HB4.out.trans (hb5.mono HB4.out.size)); have HX5 := Lib.hid ((hb5.block _ (lt_of_block HX4.out)).trans HX4.out); have HV5 := Lib.hid hr5
  clear hr5 hb5 HR4 HB4 HX4
  go_wp2_with fail
  refine (Hls.out b w5 HB5.out HR5.out HG.out Hml.out).mono ?_
  rintro e w6 ⟨rfl, hb6⟩
  have hx6 := (hb6.block _ (lt_of_block HX5.out)).trans HX5.out
  have HB6 := Lib.hid (HB5.out.trans (hb6.mono HB5.out.size)); have HX6 := Lib.hid hx6; have HV6 := Lib.hid (HV5.out.below hb6)
  have hlx := lt_of_block hx6
  have t0 := cell_of_row w6 _ 0 _ _ _ hx6
  have t1 := cell_of_row w6 _ 1 _ _ _ hx6
  have t2 := cell_of_row w6 _ 2 _ _ _ hx6
  have t3 := cell_of_row w6 _ 3 _ _ _ hx6
  have t4 := cell_of_row w6 _ 4 _ _ _ hx6
  have t5 := cell_of_row w6 _ 5 _ _ _ hx6
  have t6 := cell_of_row w6 _ 6 _ _ _ hx6
  have t7 := cell_of_row w6 _ 7 _ _ _ hx6
  have t8 := cell_of_row w6 _ 8 _ _ _ hx6
  have t9 := cell_of_row w6 _ 9 _ _ _ hx6
  have t10 := cell_of_row w6 _ 10 _ _ _ hx6
  have t11 := cell_of_row w6 _ 11 _ _ _ hx6
  have t12 := cell_of_row w6 _ 12 _ _ _ hx6
  have t13 := cell_of_row w6 _ 13 _ _ _ hx6
  have t14 := cell_of_row w6 _ 14 _ _ _ hx6
  have tf := fun j => frozen_of_row w6 _ j _ _ hx6
  clear hb6 hx6 HB5 HX5 HV5 HR5
  go_wp2_with fail
  refine (Hg14.out w6 HB6.out HG.out).mono ?_
  rintro e w7 ⟨A7, c7, rfl, hr7, hb7⟩
  have hx7 := (hb7.block _ hlx).trans HX6.out
  have HB7 := Lib.hid (HB6.out.trans (hb7.mono HB6.out.size)); have HV7 := Lib.hid (HV6.out.below hb7); have HW7 := Lib.hid hr7
  have hlx := lt_of_block hx7
  clear t0 t1 t2 t3 t4 t5 t6 t7 t8 t9 t10 t11 t12 t13 t14 tf
  have t0 := cell_of_row w7 _ 0 _ _ _ hx7
  have t1 := cell_of_row w7 _ 1 _ _ _ hx7
  have t2 := cell_of_row w7 _ 2 _ _ _ hx7
  have t3 := cell_of_row w7 _ 3 _ _ _ hx7
  have t4 := cell_of_row w7 _ 4 _ _ _ hx7
  have t5 := cell_of_row w7 _ 5 _ _ _ hx7
  have t6 := cell_of_row w7 _ 6 _ _ _ hx7
  have t7 := cell_of_row w7 _ 7 _ _ _ hx7
  have t8 := cell_of_row w7 _ 8 _ _ _ hx7
  have t9 := cell_of_row w7 _ 9 _ _ _ hx7
  have t10 := cell_of_row w7 _ 10 _ _ _ hx7
  have t11 := cell_of_row w7 _ 11 _ _ _ hx7
  have t12 := cell_of_row w7 _ 12 _ _ _ hx7
  have t13 := cell_of_row w7 _ 13 _ _ _ hx7
  have t14 := cell_of_row w7 _ 14 _ _ _ hx7
  have tf := fun j => frozen_of_row w7 _ j _ _ hx7
  clear hb7 hx7 hr7 HB6 HX6 HV6
  go_wp2_with fail
  refine (Hl14.out w7 HB7.out HG.out).mono ?_
  rintro e w8 ⟨rfl, hb8⟩
  have HB8 := Lib.hid (HB7.out.trans (hb8.mono HB7.out.size)); have HV8 := Lib.hid (HV7.out.below hb8); have HW8 := Lib.hid (HW7.out.below hb8)
  clear t0 t1 t2 t3 t4 t5 t6 t7 t8 t9 t10 t11 t12 t13 t14 tf hb8 hlx HB7 HV7 HW7
  go_wp2_with fail
  refine (Hal.out w8).mono ?_
  rintro e w9 ⟨rfl, hb9⟩
  have HB9 := Lib.hid (HB8.out.trans (hb9.mono HB8.out.size)); have HV9 := Lib.hid (HV8.out.below hb9); have HW9 := Lib.hid (HW8.out.below hb9)
  clear hb9
  go_wp2_with fail
  refine (Hsm.out w9 HG.out A5 A7 c5 c7 HV9.out HW9.out).mono ?_
  rintro e w10 ⟨rfl, q, rfl⟩
  go_wp2_with fail
  go_ret
  exact ⟨by simp, below_drewN HB9.out q⟩
end Go.Proofs.YtfiojofcafjfeaaGreat
