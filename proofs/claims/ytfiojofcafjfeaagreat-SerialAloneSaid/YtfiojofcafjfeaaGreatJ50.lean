/- The walk of SerialAlone. No condition. -/
import Derived.Test.YtfiojofcafjfeaaGreatJ45
import Derived.Test.YtfiojofcafjfeaaGreatJ49
import Derived.BigRegion
set_option linter.unusedSimpArgs false
set_option linter.unusedVariables false
namespace Go.Proofs.YtfiojofcafjfeaaGreat
open Go.RowKit Go.ChangeShapes Go.WideShapes Go.ChangeAt

/-- The input with other numbers of the division. -/
def divI (i : Inp) (wk mi bu ch wi ca : Int) : Inp := ⟨⟨i.cfg.sizes, i.cfg.shift, i.cfg.rate, i.cfg.mom, wk, i.cfg.batch, mi, i.cfg.steps, bu, ch, wi, ca⟩, i.data, i.start, i.draws⟩
theorem divI_traj (i : Inp) (wk mi bu ch wi ca : Int) : ∀ k, traj (divI i wk mi bu ch wi ca) k = traj i k := by
  intro k
  induction k with
  | zero => rfl
  | succ k ih => unfold traj; rw [ih]; rfl
theorem divI_good {i : Inp} (h : GoodIn i) {wk mi bu ch wi ca : Int} (hw : 1 ≤ wk ∧ wk ≤ 64) (hwb : wk ≤ i.cfg.batch) (hm : 1 ≤ mi ∧ mi ≤ 256) (hb : 1 ≤ bu ∧ bu ≤ 256) (hc : 1 ≤ ch ∧ ch ≤ 256) (hi : 1 ≤ wi ∧ wi ≤ 256) (ha : 1 ≤ ca ∧ ca ≤ 256) : GoodIn (divI i wk mi bu ch wi ca) :=
  ⟨⟨hw, h.c.s, h.c.z, by show 1 ≤ mi ∧ mi ≤ 1048576; omega, by show 1 ≤ bu ∧ bu ≤ 1048576; omega, by show 1 ≤ ch ∧ ch ≤ 1048576; omega, by show 1 ≤ wi ∧ wi ≤ 1048576; omega, by show 1 ≤ ca ∧ ca ≤ 1048576; omega, h.c.st, ⟨hwb, h.c.ba.2⟩⟩, h.b, h.f, h.s, h.d⟩
theorem divI_rd {w : World} {A : Option Addr} {c : Nat} {D T R : Option Addr} {ct : Nat} {i : Inp} (h : InpRd w A c D T ct R i) (wk mi bu ch wi ca : Int) : InpRd w A c D T ct R (divI i wk mi bu ch wi ca) :=
  ⟨⟨h.c.hc, h.c.hm, h.c.hl, h.c.hr⟩, h.d, h.dl, h.t, h.tl, h.r, h.rl, h.ru, h.ra, h.rm⟩
theorem divI_res {i : Inp} (h : GoodIn i) {wk mi bu ch wi ca : Int} (h2 : GoodIn (divI i wk mi bu ch wi ca)) : resL (divI i wk mi bu ch wi ca) = resL i := by
  unfold resL; rw [if_pos h, if_pos h2]
  unfold trajL
  exact List.map_congr_left fun k _ => divI_traj i wk mi bu ch wi ca k

set_option maxRecDepth 100000 in
set_option maxHeartbeats 1000000 in
theorem SerialAlone_walk {H : Type} {enc : TypeId × Value → H} {base : Nat} {v0 v1 : Value} {d0 d1 : DataW H} {p0 p1 : List MemPlace} (W : World)
    (o0 : Value.okWide Tryz.prog W .any base 29 v0) (h0 : DataW.Trod enc Tryz.prog W 0 (fun _ => true) true 29 v0 d0 p0) (z0 : Light Tryz.prog 29 d0)
    (o1 : Value.okWide Tryz.prog W .any base 41 v1) (h1 : DataW.Trod enc Tryz.prog W 0 (fun _ => true) true 41 v1 d1 p1) (z1 : Light Tryz.prog 41 d1) :
    Calls Tryz.prog 4 #[v0, v1] W fun e w' => e = .returned (.bool true) ∧ Below W.heap.size W w' := by
  obtain ⟨A, c, D, cd, T, ct, R, cr, i, rfl, hI, _⟩ := open_inp o0 h0 z0
  obtain ⟨a0, a1, a2, a3, a4, a5, rfl, b0, b1, b2, b3, b4, b5⟩ := open_arr6 o1 h1
  clear o0 h0 z0 o1 h1 z1
  have hfew := fun w' (q : Below W.heap.size W w') => fewrun_any A c D cd T ct R cr i w' (hI.below q)
  have hin := fun w' (q : Below W.heap.size W w') (hs : SmallI i) => rinput_any A c D cd T ct R cr i w' ((hI.below q).rd hs)
  have hrt := fun w' (q : Below W.heap.size W w') (hs : SmallI i) => (rtrain_any A c D cd T ct R cr i w' ((hI.below q).rd hs)).mono (fun _ _ h => h.res)
  have htr := fun w' wk mi bu ch wi ca (q : Below W.heap.size W w') (hs : SmallI i) => (train_any A c D cd T ct R cr (divI i wk mi bu ch wi ca) w' (divI_rd ((hI.below q).rd hs) wk mi bu ch wi ca)).mono (fun _ _ h => h.res)
  have hbk := fun w' A' c' (h : SlRd rEx 2 w' A' (resL i)) => backs_any A' (resL i) c' w' h (resL_len i)
  have hsm := fun w' A1 A2 c1 c2 (h1 : SlRd rEx 2 w' A1 (resL i)) (h2 : SlRd rEx 2 w' A2 (resL i)) => stall_any A1 A2 (resL i) (resL i) c1 c2 w' h1 h2 (resL_len i) (resL_len i)
  simp only [decide_true] at hsm
  unfold TrRes at htr hrt
  unfold FewI at hfew
  obtain ⟨n, hn⟩ : ∃ n, (resL i).length = n := ⟨_, rfl⟩
  obtain ⟨z, hz⟩ : ∃ z, inCode i = z := ⟨_, rfl⟩
  have hgz : z = 0 → GoodIn i := fun e => in_good.1 (hz.trans e)
  obtain ⟨bt', hbt⟩ : ∃ b, i.cfg.batch = b := ⟨_, rfl⟩
  simp only [hn, hz] at hin hrt hbk hsm
  dsimp only [inpVals] at hfew hin hrt htr
  obtain ⟨W1, hW1⟩ : ∃ W1, (W.alloc (.cells #[.slice A i.cfg.sizes.length c, .int .i64 i.cfg.shift, .int .i64 i.cfg.rate, .int .i64 i.cfg.mom, .int .i64 i.cfg.workers, .int .i64 i.cfg.batch, .int .i64 i.cfg.micros, .int .i64 i.cfg.steps, .int .i64 i.cfg.bucket, .int .i64 i.cfg.chunk, .int .i64 i.cfg.window, .int .i64 i.cfg.cap, .slice D i.data.length cd, .slice T i.start.length ct, .slice R i.draws.length cr] 29)).alloc (.cells #[.int .u8 a0, .int .u8 a1, .int .u8 a2, .int .u8 a3, .int .u8 a4, .int .u8 a5] 41) = W1 := ⟨_, rfl⟩
  have hx : W1.heap[W.heap.size]? = some (.cells #[.slice A i.cfg.sizes.length c, .int .i64 i.cfg.shift, .int .i64 i.cfg.rate, .int .i64 i.cfg.mom, .int .i64 i.cfg.workers, .int .i64 i.cfg.batch, .int .i64 i.cfg.micros, .int .i64 i.cfg.steps, .int .i64 i.cfg.bucket, .int .i64 i.cfg.chunk, .int .i64 i.cfg.window, .int .i64 i.cfg.cap, .slice D i.data.length cd, .slice T i.start.length ct, .slice R i.draws.length cr] 29 (0, 0)) := by rw [← hW1]; exact blk_alloc (heap_alloc_new W _) _
  have hy : W1.heap[W.heap.size + 1]? = some (.cells #[.int .u8 a0, .int .u8 a1, .int .u8 a2, .int .u8 a3, .int .u8 a4, .int .u8 a5] 41 (0, 0)) := by rw [← hW1]; exact blk_new _ _ _ (by simp)
  have hB : Below W.heap.size W W1 := by rw [← hW1]; exact ((br W).alloc (Nat.le_refl _) _).alloc (by simp) _
  have t := fun w' q => bx15 (sb hx w' q)
  have y := fun w' q => bx6 (sb hy w' q)
  have tl := sl hx
  have yl := sl hy
  have HW1 := Lib.hid hW1; have Hfew := Lib.hid hfew; have Hin := Lib.hid hin; have Hrt := Lib.hid hrt; have Htr := Lib.hid htr; have Hbk := Lib.hid hbk; have Hsm := Lib.hid hsm; have Hgz := Lib.hid hgz; have Hb := Lib.hid (And.intro b0 (And.intro b1 (And.intro b2 (And.intro b3 (And.intro b4 b5))))); have Hn := Lib.hid hn; have Hbt := Lib.hid hbt; have HB := Lib.hid hB
  have Hx := Lib.hid (fun w' (q : Below W1.heap.size W1 w') => hB.trans (q.mono hB.size)); have Hal := Lib.hid (fun w' (q : Below W1.heap.size W1 w') => (alive14_any w').mono fun e w'' (h : _ ∧ Below _ _ _) => (⟨h.1, hB.trans ((q.trans (h.2.mono q.size)).mono hB.size)⟩ : e = .returned (.bool true) ∧ Below W.heap.size W w''))
  clear hfew hin hrt htr hbk hsm hI hz hx hy hgz b0 b1 b2 b3 b4 b5 hn hbt hB hW1
  go_enter Tryz.func4, Tryz.ntmps4
  dsimp only [inpVals]
  go_wp2_with fail
  rw [HW1.out]
  have q1 := br W1
  refine (Hfew.out W1 (Hx.out _ q1)).mono ?_
  rintro e w2 ⟨⟨b, rfl, hbs⟩, k2⟩
  have q2 := bt q1 k2
  clear q1 k2 HW1
  rcases bool_ft b with rfl | rfl
  · clear hbs
    go_wp2_with fail
    refine (Hal.out _ q2).mono ?_
    rintro e w3 ⟨rfl, h3⟩
    go_wp2_with fail
    go_ret
    exact ⟨rfl, h3⟩
  have Hs := Lib.hid (hbs rfl)
  clear hbs
  go_wp2_with fail
  refine (Hin.out w2 (Hx.out _ q2) Hs.out).mono ?_
  rintro e w3 ⟨rfl, k3⟩
  have q3 := bt q2 k3
  clear q2 k3
  by_cases hz0 : z ≠ 0
  · have hzb : (z != 0) = true := by rw [bne_iff_ne]; exact hz0
    go_wp2_with fail
    refine (Hal.out _ q3).mono ?_
    rintro e w4 ⟨rfl, h4⟩
    go_wp2_with fail
    go_ret
    exact ⟨rfl, h4⟩
  obtain rfl : z = 0 := by omega
  have HG := Lib.hid (Hgz.out rfl)
  clear hz0
  go_upto_region 5 with (fail)
  obtain ⟨b5, hb5⟩ : ∃ b5, w3.heap.size = b5 := ⟨_, rfl⟩
  obtain ⟨W5, hW5⟩ : ∃ W5, w3.alloc (.cells #[.slice A i.cfg.sizes.length c, .int .i64 i.cfg.shift, .int .i64 i.cfg.rate, .int .i64 i.cfg.mom, .int .i64 i.cfg.workers, .int .i64 i.cfg.batch, .int .i64 i.cfg.micros, .int .i64 i.cfg.steps, .int .i64 i.cfg.bucket, .int .i64 i.cfg.chunk, .int .i64 i.cfg.window, .int .i64 i.cfg.cap, .slice D i.data.length cd, .slice T i.start.length ct, .slice R i.draws.length cr] 29) = W5 := ⟨_, rfl⟩
  have h5 : W5.heap[b5]? = some (.cells #[.slice A i.cfg.sizes.length c, .int .i64 i.cfg.shift, .int .i64 i.cfg.rate, .int .i64 i.cfg.mom, .int .i64 i.cfg.workers, .int .i64 i.cfg.batch, .int .i64 i.cfg.micros, .int .i64 i.cfg.steps, .int .i64 i.cfg.bucket, .int .i64 i.cfg.chunk, .int .i64 i.cfg.window, .int .i64 i.cfg.cap, .slice D i.data.length cd, .slice T i.start.length ct, .slice R i.draws.length cr] 29 (0, 0)) := by rw [← hW5]; exact blk_new w3 _ _ hb5
  have q5 : Below W1.heap.size W1 W5 := by rw [← hW5]; exact q3.alloc q3.size _
  have g5 : W1.heap.size ≤ b5 := by rw [← hb5]; exact q3.size
  rw [hb5, hW5]
  clear hb5 hW5 q3
  rw [Hbt.out] at h5 ⊢
  have hc := HG.out.c
  have hbt1 : 1 ≤ bt' := by have := hc.w; have := hc.ba; have := Hbt.out; omega
  have hb0 := Hb.out.1
  have hm1 : (0 : Int) < min bt' 64 := by omega
  have hm2 : ¬ (min bt' 64 = 0) := by omega
  have u := (bx15 h5).1
  have uf := (bx15 h5).2
  have u5 := lt_of_block h5
  have H5 := Lib.hid h5
  clear h5 hc
  refine XA.g 11 (fun w' : World => w'.cell? ⟨W.heap.size + 1, 0, none⟩ = some (.int .u8 a0) ∧ w'.cell? ⟨b5, 5, none⟩ = some (.int .i64 bt')) ?_
  have hw0 : IntKind.i64.wrap a0 = a0 := IntWalk.i64_in _ (by omega)
  refine XA.t ?_ [0, 1, 2, 3, 4, 5, 6, 7, 8] ⟨(y W5 q5).1.1, u.2.2.2.2.2.1⟩ ?_
  obtain ⟨mn, hmn⟩ : ∃ mn : Int, (if 64 < bt' then 64 else bt') = mn := ⟨_, rfl⟩
  have hm : 1 ≤ mn ∧ mn ≤ 64 ∧ mn ≤ bt' := by rw [← hmn]; split <;> omega
  rw [hmn]
  have hm0 : ¬ mn = 0 := by omega
  have Hm := Lib.hid hm
  clear hmn hm1 hm2 hm
  refine XA.t ?_ [9, 10] ⟨(y W5 q5).1.1, u.2.2.2.2.2.1⟩ ?_
  refine XA.e ?_
  simp only [List.drop_succ_cons, List.drop_zero]
  go_upto_region 6 with (fail)
  obtain ⟨wk, hwk⟩ : ∃ wk, wrap64 (1 + a0 % mn) = wk := ⟨_, rfl⟩
  have hwk2 : (1 ≤ wk ∧ wk ≤ 64) ∧ wk ≤ bt' := by
    have e2 := Int.emod_nonneg a0 hm0
    have e3 := Int.emod_lt_of_pos a0 (show 0 < mn by have := Hm.out; omega)
    have e5 : wrap64 (1 + a0 % mn) = 1 + a0 % mn := by have := Hm.out; unfold wrap64; omega
    have := Hm.out
    omega
  have h6 : (W5.setCell ⟨b5, 4, none⟩ (.int .i64 wk)).drew.heap[b5]? = some (.cells #[.slice A i.cfg.sizes.length c, .int .i64 i.cfg.shift, .int .i64 i.cfg.rate, .int .i64 i.cfg.mom, .int .i64 wk, .int .i64 bt', .int .i64 i.cfg.micros, .int .i64 i.cfg.steps, .int .i64 i.cfg.bucket, .int .i64 i.cfg.chunk, .int .i64 i.cfg.window, .int .i64 i.cfg.cap, .slice D i.data.length cd, .slice T i.start.length ct, .slice R i.draws.length cr] 29 (0, 0)) := ss H5.out
  have q6 : Below W1.heap.size W1 (W5.setCell ⟨b5, 4, none⟩ (.int .i64 wk)).drew := (q5.setCell g5 _).drew
  rw [hwk]
  generalize (W5.setCell ⟨b5, 4, none⟩ (.int .i64 wk)).drew = W6 at h6 q6 ⊢
  have Hwk := Lib.hid hwk2; have H6 := Lib.hid h6
  have u5 := lt_of_block h6
  clear u uf q5 hwk hwk2 hm0 hb0 hbt1 hw0 H5
  have u := (bx15 h6).1
  have uf := (bx15 h6).2
  clear h6
  have hw1 : ∀ a : Int, 0 ≤ a ∧ a ≤ 255 → IntKind.i64.wrap a = a ∧ IntKind.i64.wrap (1 + a) = 1 + a := fun a h => ⟨IntWalk.i64_in _ (by omega), IntWalk.i64_in _ (by omega)⟩
  have c1 := hw1 a1 Hb.out.2.1; have c2 := hw1 a2 Hb.out.2.2.1; have c3 := hw1 a3 Hb.out.2.2.2.1
  have Hw1 := Lib.hid hw1
  clear hw1
  refine HA.g (fun w' : World => Below W1.heap.size W1 w') ?_
  refine HA.t ?_ [0, 1, 2, 3, 4, 5, 6, 7, 8, 9, 10, 11, 12, 13, 14, 15, 16] q6.drew ?_
  refine HA.s 17 (W6.drew.setCell ⟨b5, 6, none⟩ (.int .i64 (1 + a1))) (q6.drew.setCell g5 _) ?_
  refine HA.t ?_ [18, 19] (q6.drew.setCell g5 _) ?_
  refine HA.s 20 ((W6.drew.setCell ⟨b5, 6, none⟩ (.int .i64 (1 + a1))).setCell ⟨b5, 8, none⟩ (.int .i64 (1 + a2))) ((q6.drew.setCell g5 _).setCell g5 _) ?_
  refine HA.t ?_ [21, 22] ((q6.drew.setCell g5 _).setCell g5 _) ?_
  refine HA.s 23 (((W6.drew.setCell ⟨b5, 6, none⟩ (.int .i64 (1 + a1))).setCell ⟨b5, 8, none⟩ (.int .i64 (1 + a2))).setCell ⟨b5, 9, none⟩ (.int .i64 (1 + a3))) (((q6.drew.setCell g5 _).setCell g5 _).setCell g5 _) ?_
  refine HA.d ?_
  have h7 : (((W6.drew.setCell ⟨b5, 6, none⟩ (.int .i64 (1 + a1))).setCell ⟨b5, 8, none⟩ (.int .i64 (1 + a2))).setCell ⟨b5, 9, none⟩ (.int .i64 (1 + a3))).heap[b5]? = some (.cells #[.slice A i.cfg.sizes.length c, .int .i64 i.cfg.shift, .int .i64 i.cfg.rate, .int .i64 i.cfg.mom, .int .i64 wk, .int .i64 bt', .int .i64 (1 + a1), .int .i64 i.cfg.steps, .int .i64 (1 + a2), .int .i64 (1 + a3), .int .i64 i.cfg.window, .int .i64 i.cfg.cap, .slice D i.data.length cd, .slice T i.start.length ct, .slice R i.draws.length cr] 29 (0, 0)) := ss3 (w := W6.drew) H6.out
  have q7 : Below W1.heap.size W1 (((W6.drew.setCell ⟨b5, 6, none⟩ (.int .i64 (1 + a1))).setCell ⟨b5, 8, none⟩ (.int .i64 (1 + a2))).setCell ⟨b5, 9, none⟩ (.int .i64 (1 + a3))) := ((q6.drew.setCell g5 _).setCell g5 _).setCell g5 _
  generalize ((W6.drew.setCell ⟨b5, 6, none⟩ (.int .i64 (1 + a1))).setCell ⟨b5, 8, none⟩ (.int .i64 (1 + a2))).setCell ⟨b5, 9, none⟩ (.int .i64 (1 + a3)) = W7 at h7 q7 ⊢
  go_upto_region 7 with (fail)
  have H7 := Lib.hid h7
  have u5 := lt_of_block h7
  clear u uf q6 H6
  have u := (bx15 h7).1
  have uf := (bx15 h7).2
  clear h7 c1 c2 c3
  have c4 := Hw1.out a4 Hb.out.2.2.2.2.1; have c5 := Hw1.out a5 Hb.out.2.2.2.2.2
  refine HA.g (fun w' : World => Below W1.heap.size W1 w') ?_
  refine HA.t ?_ [0, 1, 2, 3, 4, 5, 6, 7, 8, 9, 10, 11] q7.drew ?_
  refine HA.s 12 (W7.drew.setCell ⟨b5, 10, none⟩ (.int .i64 (1 + a4))) (q7.drew.setCell g5 _) ?_
  refine HA.t ?_ [13, 14] (q7.drew.setCell g5 _) ?_
  refine HA.s 15 ((W7.drew.setCell ⟨b5, 10, none⟩ (.int .i64 (1 + a4))).setCell ⟨b5, 11, none⟩ (.int .i64 (1 + a5))) ((q7.drew.setCell g5 _).setCell g5 _) ?_
  refine HA.d ?_
  have h8 : ((W7.drew.setCell ⟨b5, 10, none⟩ (.int .i64 (1 + a4))).setCell ⟨b5, 11, none⟩ (.int .i64 (1 + a5))).heap[b5]? = some (.cells #[.slice A i.cfg.sizes.length c, .int .i64 i.cfg.shift, .int .i64 i.cfg.rate, .int .i64 i.cfg.mom, .int .i64 wk, .int .i64 bt', .int .i64 (1 + a1), .int .i64 i.cfg.steps, .int .i64 (1 + a2), .int .i64 (1 + a3), .int .i64 (1 + a4), .int .i64 (1 + a5), .slice D i.data.length cd, .slice T i.start.length ct, .slice R i.draws.length cr] 29 (0, 0)) := ss2 (w := W7.drew) H7.out
  have q8 : Below W1.heap.size W1 ((W7.drew.setCell ⟨b5, 10, none⟩ (.int .i64 (1 + a4))).setCell ⟨b5, 11, none⟩ (.int .i64 (1 + a5))) := (q7.drew.setCell g5 _).setCell g5 _
  generalize (W7.drew.setCell ⟨b5, 10, none⟩ (.int .i64 (1 + a4))).setCell ⟨b5, 11, none⟩ (.int .i64 (1 + a5)) = W8 at h8 q8 ⊢
  have u5 := lt_of_block h8
  clear u uf q7 H7 c4 c5
  have u := (bx15 h8).1
  have uf := (bx15 h8).2
  clear h8
  have hg2 := divI_good HG.out Hwk.out.1 (by rw [Hbt.out]; exact Hwk.out.2) (mi := 1 + a1) (bu := 1 + a2) (ch := 1 + a3) (wi := 1 + a4) (ca := 1 + a5) (by have := Hb.out.2.1; omega) (by have := Hb.out.2.2.1; omega) (by have := Hb.out.2.2.2.1; omega) (by have := Hb.out.2.2.2.2.1; omega) (by have := Hb.out.2.2.2.2.2; omega)
  have htr := fun V (q : Below W.heap.size W V) => Htr.out V wk (1 + a1) (1 + a2) (1 + a3) (1 + a4) (1 + a5) q Hs.out
  simp only [divI_res HG.out hg2, in_good.2 hg2, Hn.out] at htr
  dsimp only [divI] at htr
  rw [Hbt.out] at htr
  have Htr2 := Lib.hid htr
  clear htr hg2
  go_wp2_with fail
  refine (Htr2.out _ (Hx.out _ q8)).mono ?_
  rintro e w9 ⟨A9, c9, rfl, r9, k9⟩
  have q9 := bt q8 k9
  have s9 := Lib.hid (fun w' (q : Below w9.heap.size w9 w') => (r9.below stays_ex q : SlRd rEx 2 w' A9 (resL i)))
  clear u uf u5 q8 k9 r9
  have j9 := br w9
  go_wp2_with fail
  refine (Hrt.out w9 (Hx.out _ q9) Hs.out).mono ?_
  rintro e w10 ⟨A10, c10, rfl, r10, k10⟩
  have q10 := bt q9 k10
  have s10 := Lib.hid (fun w' (q : Below w10.heap.size w10 w') => (r10.below stays_ex q : SlRd rEx 2 w' A10 (resL i)))
  have s9 := Lib.hid (fun w' (q : Below w10.heap.size w10 w') => s9.out w' (bt k10 q))
  clear q9 k10 r10 j9
  go_wp2_with fail
  refine (alive14_any w10).mono ?_
  rintro e w11 ⟨rfl, k11⟩
  go_wp2_with fail
  refine (Hbk.out w11 A9 c9 (s9.out _ k11)).mono ?_
  rintro e w12 ⟨A12, c12, rfl, r12, k12⟩
  go_wp2_with fail
  refine (Hsm.out w12 A12 A10 c12 c10 r12 (s10.out _ (bt k11 k12))).mono ?_
  rintro e w13 ⟨rfl, k13⟩
  have q13 := Hx.out _ (bt q10 (bt (bt k11 k12) k13))
  go_wp2_with fail
  go_ret
  exact ⟨rfl, q13⟩
end Go.Proofs.YtfiojofcafjfeaaGreat
