/- The methods of a nil run; rows of a call's own, whatever their numbers. The walk of SerialNil. No condition. -/
import Derived.Test.YtfiojofcafjfeaaGreatJ41
import Derived.Test.YtfiojofcafjfeaaGreatJ49
import Derived.Test.YtfiojofcafjfeaaGreatJ45
import Derived.Test.YtfiojofcafjfeaaGreatJ39
set_option linter.unusedSimpArgs false
set_option linter.unusedVariables false
namespace Go.Proofs.YtfiojofcafjfeaaGreat
open Go.RowKit

theorem each_nil (B F : Value) (w : World) : Calls Tryz.prog 52 #[.pointer none, B, F] w fun e w' => e = .returned (.bool false) ∧ w = w' := by
  go_enter Tryz.func52, Tryz.ntmps52
  go_wp2
  go_ret
  exact ⟨rfl, rfl⟩
theorem sloss_nil (w : World) : Calls Tryz.prog 31 #[.pointer none, .slice none 0 0] w fun e w' => e = .returned (.tuple #[.int .i64 0, .bool false]) ∧ Below w.heap.size w w' := by
  have H := Lib.hid (fun F w' => each_nil (.slice none 0 0) F w')
  have hb : Below w.heap.size w (w.alloc (.cells #[.int .i64 0] 2)) := (br w).alloc (Nat.le_refl _) _
  go_enter Tryz.func31, Tryz.ntmps31
  go_wp2_with fail
  refine (H.out _ _).mono ?_
  rintro e w1 ⟨rfl, rfl⟩
  go_wp2_with fail
  go_ret2
  exact ⟨rfl, hb⟩
theorem st_p0 (w : World) : Sem.run Tryz.prog (Instr.field 71 (.agg #[.slice none 0 0, .slice none 0 0]) 0) w = .ok (.slice none 0 0) w := by kernel_rfl
theorem eqn_nil (w : World) : Sem.run Tryz.prog (binOp .eql 22 (.slice none 0 0) (.slice none 0 0)) w = .ok (.bool true) w := by kernel_rfl
set_option maxRecDepth 100000 in
theorem sgradient_nil (w : World) : Calls Tryz.prog 20 #[.pointer none, .slice none 0 0] w fun e w' => e = .returned (.tuple #[.slice none 0 0, .bool false]) ∧ Below w.heap.size w w' := by
  have H := Lib.hid (fun F w' => each_nil (.slice none 0 0) F w')
  have hs := Lib.hid (state_nil w)
  have hmk := Lib.hid (fun w' => run_mk et_vec w' rfl 0 (by omega) (by unfold maxLen; omega))
  go_enter Tryz.func20, Tryz.ntmps20
  go_wp2_with fail
  refine hs.out.mono ?_
  rintro e w1 ⟨rfl, k1⟩
  have hfd := st_p0 w1
  obtain ⟨V, hrun, hov, hbv⟩ := hmk.out w1
  have hr0 := hrun
  simp only [Int.natCast_zero] at hrun
  have hb : Below w.heap.size w (V.alloc (.cells #[.slice (some ⟨w1.heap.size, 0, none⟩) 0 0] 52)) := (bt k1 hbv).alloc (bt k1 hbv).size _
  clear hov
  go_wp2_with fail
  refine (H.out _ _).mono ?_
  rintro e w3 ⟨rfl, rfl⟩
  clear hrun hfd hr0
  go_wp2_with fail
  go_ret2
  exact ⟨rfl, hb⟩

/-- A row of numbers of the call's own, whatever the numbers. -/
def IRow (w : World) (base : Nat) (v : Value) (n : Nat) : Prop := ∃ xs : List Int, w.ownsRow base 2 1 v n (nums .i64 xs)
theorem IRow.put {w : World} {base n g c : Nat} (h : IRow w base (.slice (some ⟨g, 0, none⟩) n c) n) (k : Nat) (v : Int) : IRow (w.setCell ⟨g, k, none⟩ (.int .i64 v)) base (.slice (some ⟨g, 0, none⟩) n c) n := by
  obtain ⟨xs, h⟩ := h
  exact ⟨_, own_put h k v⟩
theorem IRow.cell {w : World} {base n g c : Nat} (h : IRow w base (.slice (some ⟨g, 0, none⟩) n c) n) {k : Nat} (hk : k < n) : ∃ x : Int, w.cell? ⟨g, k, none⟩ = some (.int .i64 x) ∧ w.frozen? ⟨g, k, none⟩ = false := by
  obtain ⟨xs, h⟩ := h
  have f := h.frozenAt k
  exact ⟨_, own_num h hk, f⟩
theorem IRow.form {w : World} {base n c : Nat} {A : Option Addr} (h : IRow w base (.slice A n c) n) (hn : 0 < n) : ∃ g, A = some ⟨g, 0, none⟩ := by
  obtain ⟨xs, h⟩ := h
  obtain ⟨g, e, hv, _⟩ := h.form hn
  simp only [Value.slice.injEq] at hv
  exact ⟨g, hv.1⟩
theorem IRow.lt {w : World} {base n : Nat} {v : Value} (h : IRow w base v n) : ∀ i, v.ownBlock = some i → base ≤ i ∧ i < w.heap.size := by
  obtain ⟨xs, h⟩ := h
  exact h.lt
theorem IRow.keep {w w' : World} {base n : Nat} {v : Value} (h : IRow w base v n) {S : Nat → Prop} (k : Keep S w w') (hS : ∀ i, v.ownBlock = some i → ¬ S i) : IRow w' base v n := by
  obtain ⟨xs, h⟩ := h
  exact ⟨xs, k.own h hS⟩
theorem IRow.below {w w' : World} {base n : Nat} {v : Value} (h : IRow w base v n) (hb : Below w.heap.size w w') : IRow w' base v n := by
  obtain ⟨xs, h⟩ := h
  exact ⟨xs, own_below h hb⟩

/-- Two rows of the call's own and the state that holds them. -/
def SRows (X n g1 c1 g2 c2 : Nat) (w0 w : World) : Prop := Below w0.heap.size w0 w ∧ w.heap[X]? = some (.cells #[.slice (some ⟨g1, 0, none⟩) n c1, .slice (some ⟨g2, 0, none⟩) n c2] 71 (0, 0)) ∧
  IRow w w0.heap.size (.slice (some ⟨g1, 0, none⟩) n c1) n ∧ IRow w w0.heap.size (.slice (some ⟨g2, 0, none⟩) n c2) n ∧ g1 ≠ X ∧ g2 ≠ X ∧ g1 ≠ g2
theorem SRows.put1 {X n g1 c1 g2 c2 : Nat} {w0 w : World} (h : SRows X n g1 c1 g2 c2 w0 w) (k : Nat) (v : Int) : SRows X n g1 c1 g2 c2 w0 (w.setCell ⟨g1, k, none⟩ (.int .i64 v)) := by
  obtain ⟨h1, h2, h3, h4, h5, h6, h7⟩ := h
  have hk : Keep (fun j => j = g1) w (w.setCell ⟨g1, k, none⟩ (.int .i64 v)) := Keep.setCell (S := fun j => j = g1) (Keep.refl _ _) _ (.inr rfl) _
  exact ⟨h1.setCell (h3.lt g1 rfl).1 _, (hk.block X (lt_of_block h2) (fun e => h5 e.symm)).trans h2, h3.put k v, h4.keep hk (fun i hi e => h7 (by simp [Value.ownBlock] at hi; omega)), h5, h6, h7⟩
theorem SRows.put2 {X n g1 c1 g2 c2 : Nat} {w0 w : World} (h : SRows X n g1 c1 g2 c2 w0 w) (k : Nat) (v : Int) : SRows X n g1 c1 g2 c2 w0 (w.setCell ⟨g2, k, none⟩ (.int .i64 v)) := by
  obtain ⟨h1, h2, h3, h4, h5, h6, h7⟩ := h
  have hk : Keep (fun j => j = g2) w (w.setCell ⟨g2, k, none⟩ (.int .i64 v)) := Keep.setCell (S := fun j => j = g2) (Keep.refl _ _) _ (.inr rfl) _
  exact ⟨h1.setCell (h4.lt g2 rfl).1 _, (hk.block X (lt_of_block h2) (fun e => h6 e.symm)).trans h2, h3.keep hk (fun i hi e => h7 (by simp [Value.ownBlock] at hi; omega)), h4.put k v, h5, h6, h7⟩
end Go.Proofs.YtfiojofcafjfeaaGreat
namespace Go.Proofs.YtfiojofcafjfeaaGreat
open Go.RowKit Go.ChangeShapes Go.WideShapes Go.ChangeAt

set_option maxRecDepth 100000 in
set_option maxHeartbeats 2000000 in
theorem SerialNil_walk {H : Type} {enc : TypeId × Value → H} {base : Nat} {v0 : Value} {d0 : DataW H} {p0 : List MemPlace} (W : World)
    (o0 : Value.okWide Tryz.prog W .any base 29 v0) (h0 : DataW.Trod enc Tryz.prog W 0 (fun _ => true) true 29 v0 d0 p0) (z0 : Light Tryz.prog 29 d0) :
    Calls Tryz.prog 8 #[v0] W fun e w' => e = .returned (.bool true) ∧ Below W.heap.size W w' := by
  obtain ⟨A, c, D, cd, T, ct, R, cr, i, rfl, hI, _⟩ := open_inp o0 h0 z0
  clear o0 h0 z0
  have hfew := fun w' (q : Below W.heap.size W w') => fewrun_any A c D cd T ct R cr i w' (hI.below q)
  have hin := fun w' (q : Below W.heap.size W w') (hs : SmallI i) => rinput_any A c D cd T ct R cr i w' ((hI.below q).rd hs)
  have hnew := fun w' (q : Below W.heap.size W w') (hs : SmallI i) (hg : GoodIn i) => sernew_good A c D cd T ct R cr i w' ((hI.below q).rd hs) hg
  have hcb := fun hg : GoodIn i => (hg.c.z.bound (k := i.cfg.sizes.length - 1) (by have := hg.c.z.1.1; omega) : cnt i ≤ 1048576)
  have hst := fun b w' (hg : GoodIn i) (h : RunAt w' b i i.start (List.replicate (cnt i) 0) 0) => state_any b 0 i _ _ w' h (hcb hg)
  have hgr := fun b w' (hg : GoodIn i) (h : RunAt w' b i i.start (List.replicate (cnt i) 0) 0) => rgradient_any b 0 0 none i i.start _ [] w' h hg hI.t.hw (Rd.nil _ _) (by simp)
  have hco := fun w' (q : Below W.heap.size W w') (hg : GoodIn i) => rcount_any A i.cfg.sizes i.cfg.sizes.length c w' (hI.c.hr.below q) hg.c.z.1 (by have := hg.c.z.1.1; omega) (Nat.le_refl _)
  have hrs := fun w' (hg : GoodIn i) => rstart_any T i.start.length ct w' (by rw [hg.s]; exact hcb hg)
  have hsa := fun A1 A2 B1 B2 c1 c2 d1 d2 w' (h1 : NumsRd w' A1 i.start c1) (h2 : NumsRd w' A2 (List.replicate (cnt i) 0) c2) (h3 : NumsRd w' B1 i.start d1) (h4 : NumsRd w' B2 (List.replicate (cnt i) 0) d2) => stsame_any A1 A2 B1 B2 _ _ _ _ c1 c2 d1 d2 w' h1 h2 h3 h4
  have hsp := fun w' (q : Below W.heap.size W w') (hs : SmallI i) (hg : GoodIn i) => rsamp14_any A c D cd T ct R cr i w' hg (hI.r.below q) ((hI.rd hs).rl) hI.ru
  have hbn : GoodIn i → i.cfg.batch = (i.cfg.batch.toNat : Int) ∧ i.cfg.steps = (i.cfg.steps.toNat : Int) := fun hg => by have := hg.c.w; have := hg.c.ba; have := hg.c.st; omega
  have hcn := fun hg : GoodIn i => cnt_pos hg.c.z
  unfold FewI at hfew
  unfold StateIs at hst
  unfold RGradIs at hgr
  unfold RSamp14Is at hsp
  have hgood : allGood i [] := fun k hk => absurd hk (by simp)
  simp only [hgood, true_and, not_true, false_and, or_false, List.length_nil] at hgr
  obtain ⟨n, hn⟩ : ∃ n, cnt i = n := ⟨_, rfl⟩
  have hn2 : cntN i.cfg.sizes (i.cfg.sizes.length - 1) = n := hn
  have hsl : GoodIn i → i.start.length = n := fun hg => by rw [hg.s, hn]
  have hw0 : W64 (List.replicate n 0) := fun k hk => by simp at hk; simp [nth, hk]
  obtain ⟨z, hz⟩ : ∃ z, inCode i = z := ⟨_, rfl⟩
  have hgz : z = 0 → GoodIn i := fun e => in_good.1 (hz.trans e)
  simp only [hz] at hin
  simp only [hn, hn2, List.length_replicate, decide_true, Bool.and_true] at hnew hst hgr hco hsa hcb hcn
  dsimp only [inpVals] at hfew hin hnew hsp
  obtain ⟨W1, hW1⟩ : ∃ W1, W.alloc (.cells #[.slice A i.cfg.sizes.length c, .int .i64 i.cfg.shift, .int .i64 i.cfg.rate, .int .i64 i.cfg.mom, .int .i64 i.cfg.workers, .int .i64 i.cfg.batch, .int .i64 i.cfg.micros, .int .i64 i.cfg.steps, .int .i64 i.cfg.bucket, .int .i64 i.cfg.chunk, .int .i64 i.cfg.window, .int .i64 i.cfg.cap, .slice D i.data.length cd, .slice T i.start.length ct, .slice R i.draws.length cr] 29) = W1 := ⟨_, rfl⟩
  have hx : W1.heap[W.heap.size]? = some (.cells #[.slice A i.cfg.sizes.length c, .int .i64 i.cfg.shift, .int .i64 i.cfg.rate, .int .i64 i.cfg.mom, .int .i64 i.cfg.workers, .int .i64 i.cfg.batch, .int .i64 i.cfg.micros, .int .i64 i.cfg.steps, .int .i64 i.cfg.bucket, .int .i64 i.cfg.chunk, .int .i64 i.cfg.window, .int .i64 i.cfg.cap, .slice D i.data.length cd, .slice T i.start.length ct, .slice R i.draws.length cr] 29 (0, 0)) := by rw [← hW1]; exact heap_alloc_new W _
  have hB : Below W.heap.size W W1 := by rw [← hW1]; exact (br W).alloc (Nat.le_refl _) _
  have t := fun w' q => bx15 (sb hx w' q)
  have tl := sl hx
  have HI := Lib.hid hI
  have HW1 := Lib.hid hW1; have Hfew := Lib.hid hfew; have Hin := Lib.hid hin; have Hnew := Lib.hid hnew; have Hst := Lib.hid hst; have Hgr := Lib.hid hgr; have Hco := Lib.hid hco; have Hrs := Lib.hid hrs; have Hsa := Lib.hid hsa; have Hsp := Lib.hid hsp; have Hbn := Lib.hid hbn; have Hcn := Lib.hid hcn; have Hcb := Lib.hid hcb; have Hgz := Lib.hid hgz; have Hsl := Lib.hid hsl; have Hw0 := Lib.hid hw0; have HB := Lib.hid hB
  have Hx := Lib.hid (fun w' (q : Below W1.heap.size W1 w') => hB.trans (q.mono hB.size)); have Hal := Lib.hid (fun w' (q : Below W1.heap.size W1 w') => (alive14_any w').mono fun e w'' (h : _ ∧ Below _ _ _) => (⟨h.1, hB.trans ((q.trans (h.2.mono q.size)).mono hB.size)⟩ : e = .returned (.bool true) ∧ Below W.heap.size W w''))
  clear hfew hin hnew hst hgr hco hrs hsa hsp hbn hcn hcb hI hz hx hgz hn hn2 hB hW1 hsl hw0 hgood
  go_enter Tryz.func8, Tryz.ntmps8
  dsimp only [inpVals]
  go_wp2_with fail
  rw [HW1.out]
  have q1 := br W1
  refine (Hfew.out W1 (Hx.out _ q1)).mono ?_
  rintro e w2 ⟨⟨b, rfl, hbs⟩, k2⟩
  have q2 := bt q1 k2
  clear q1 k2 HW1
  rcases bool_ft b with rfl | rfl
  · clear hbs
    go_wp2_with fail
    refine (Hal.out _ q2).mono ?_
    rintro e w3 ⟨rfl, h3⟩
    go_wp2_with fail
    go_ret
    exact ⟨rfl, h3⟩
  have Hs := Lib.hid (hbs rfl)
  clear hbs
  go_wp2_with fail
  refine (Hin.out w2 (Hx.out _ q2) Hs.out).mono ?_
  rintro e w3 ⟨rfl, k3⟩
  have q3 := bt q2 k3
  clear q2 k3
  by_cases hz0 : z ≠ 0
  · have hzb : (z != 0) = true := by rw [bne_iff_ne]; exact hz0
    go_wp2_with fail
    refine (Hal.out _ q3).mono ?_
    rintro e w4 ⟨rfl, h4⟩
    go_wp2_with fail
    go_ret
    exact ⟨rfl, h4⟩
  obtain rfl : z = 0 := by omega
  have HG := Lib.hid (Hgz.out rfl)
  clear hz0
  go_wp2_with fail
  refine (sgradient_nil w3).mono ?_
  rintro e w4 ⟨rfl, k4⟩
  have q4 := bt q3 k4
  clear q3 k4
  go_wp2_with fail
  refine (sloss_nil w4).mono ?_
  rintro e w5 ⟨rfl, k5⟩
  have q5 := bt q4 k5
  clear q4 k5
  go_wp2_with fail
  refine (Hnew.out w5 (Hx.out _ q5) Hs.out HG.out).mono ?_
  rintro e w6 ⟨b, rfl, r6, _, k6⟩
  have q6 := bt q5 k6
  have Hr := Lib.hid (fun w' (q : Below w6.heap.size w6 w') => r6.below q)
  clear q5 k6 r6
  go_wp2_with fail
  refine (Hst.out b w6 HG.out (Hr.out _ (br _))).mono ?_
  rintro e w7 ⟨A1, c1, A2, c2, rfl, _, _, o1, o2, od, k7⟩
  have i1 : IRow w7 w6.heap.size (.slice A1 n c1) n := ⟨_, o1⟩
  have i2 : IRow w7 w6.heap.size (.slice A2 n c2) n := ⟨_, o2⟩
  obtain ⟨g1, rfl⟩ := i1.form (Hcn.out HG.out)
  obtain ⟨g2, rfl⟩ := i2.form (Hcn.out HG.out)
  have l1 := (i1.lt g1 rfl).2
  have l2 := (i2.lt g2 rfl).2
  obtain ⟨X, hX⟩ : ∃ X, w7.heap.size = X := ⟨_, rfl⟩
  have s0 : SRows X n g1 c1 g2 c2 w6 (w7.alloc (.cells #[.slice (some ⟨g1, 0, none⟩) n c1, .slice (some ⟨g2, 0, none⟩) n c2] 71)) := ⟨k7.alloc k7.size _, blk_new _ _ _ hX, i1.below ((br w7).alloc (Nat.le_refl _) _), i2.below ((br w7).alloc (Nat.le_refl _) _), by omega, by omega, fun e => od g1 rfl (by rw [e]; rfl)⟩
  have S0 := Lib.hid s0
  clear s0 i1 i2 l1 l2 o1 o2 od
  have q7 := bt q6 k7
  clear k7
  go_wp2_with fail
  have hcb := Hcb.out HG.out
  have hs8 := S0.out
  generalize w7.alloc _ = W8 at hs8 ⊢
  have S8 := Lib.hid hs8
  clear hs8 hX S0
  go_loopw [45] (fun v wr => ∃ k : Nat, k ≤ n ∧ v = .int .i64 k ∧ SRows X n g1 c1 g2 c2 w6 wr) (fun v _ => n - (intOf v).toNat)
  case atStart => exact ⟨0, Nat.zero_le _, rfl, S8.out⟩
  case round =>
    obtain ⟨k, hk, rfl, hS⟩ := hrel
    have x := bx2 hS.2.1
    have xl := lt_of_block hS.2.1
    by_cases hlt : k < n
    · obtain ⟨y, p1, f1⟩ := hS.2.2.1.cell hlt
      have hkl : (k : Int) < n := by omega
      have HS := Lib.hid hS
      clear hS
      go_wp2_with fail
      go_roundw
      case rel => exact ⟨k + 1, by omega, by go_num, HS.out.put1 k _⟩
      case measure => simp [intOf]; omega
    · have hkl : ¬ ((k : Int) < n) := by omega
      have HS := Lib.hid hS
      obtain ⟨wq, rfl⟩ : ∃ wq : World, wq = wr := ⟨_, rfl⟩
      clear hS
      go_wp2_with fail
      go_loopw [59] (fun v wr => ∃ k : Nat, k ≤ n ∧ v = .int .i64 k ∧ SRows X n g1 c1 g2 c2 w6 wr) (fun v _ => n - (intOf v).toNat)
      case atStart => exact ⟨0, Nat.zero_le _, rfl, HS.out⟩
      case round =>
        obtain ⟨k, hk, rfl, hS⟩ := hrel
        clear x xl
        have x := bx2 hS.2.1
        have xl := lt_of_block hS.2.1
        by_cases hlt : k < n
        · obtain ⟨y, p1, f1⟩ := hS.2.2.2.1.cell hlt
          have hkl : (k : Int) < n := by omega
          have HS := Lib.hid hS
          clear hS
          go_wp2_with fail
          go_roundw
          case rel => exact ⟨k + 1, by omega, by go_num, HS.out.put2 k _⟩
          case measure => simp [intOf]; omega
        · have hkl : ¬ ((k : Int) < n) := by omega
          have q8 := bt q6 hS.1
          have HS := Lib.hid hS
          clear hS x xl
          go_wp2_with fail
          refine (Hco.out wr (Hx.out _ q8) HG.out).mono ?_
          rintro e w9 ⟨rfl, nd, rfl⟩
          have q9 := below_drewN q8 nd
          have hr9 := below_drewN HS.out.1 nd
          go_wp2_with fail
          refine (Hgr.out b _ HG.out (Hr.out _ hr9)).mono ?_
          rintro e w10 ⟨k10, A5, c5, rfl, _, _⟩
          have q10 := bt q9 k10
          have Hr10 := Lib.hid (bt hr9 k10)
          clear q8 q9 hr9 k10
          go_wp2_with fail
          refine HA.g (fun w' : World => Below W1.heap.size W1 w') ?_
          refine HA.c 0 (alive14_any _) ?_
          rintro _ w11 ⟨rfl, k11⟩
          refine ⟨_, rfl, bt q10.drew k11, fun q11 => ?_⟩
          have h11 := Lib.hid (bt Hr10.out.drew k11)
          clear q10 k11 Hr10
          have hfd := st_p0
          refine HA.t ?_ [1, 2] q11 ?_
          refine HA.c 3 (step_nil _) ?_
          rintro _ w12 ⟨rfl, d12, rfl⟩
          refine ⟨_, rfl, below_drewN q11 d12, fun q12 => ?_⟩
          have h12 := Lib.hid (below_drewN h11.out d12)
          refine HA.t ?_ [4, 5, 6, 7] q12 ?_
          refine HA.c 8 (steps_nil _) ?_
          rintro _ w13 ⟨rfl, rfl⟩
          refine ⟨_, rfl, q12, fun _ => ?_⟩
          refine HA.t ?_ [9, 10, 11, 12] q12 ?_
          refine HA.c 13 (state_nil _) ?_
          rintro _ w14 ⟨rfl, k14⟩
          refine ⟨_, rfl, bt q12 k14, fun q14 => ?_⟩
          have h14 := Lib.hid (bt h12.out k14)
          clear q11 q12 k14 h11 h12
          refine HA.t ?_ [14, 15, 16, 17, 18, 19, 20, 21, 22, 23, 24, 25, 26, 27, 30, 31] q14 ?_
          refine HA.c 28 (Hst.out b _ HG.out (Hr.out _ h14.out)) ?_
          rintro _ w15 ⟨B1, d1, B2, d2, rfl, hd1, hd2, u1, u2, _, k15⟩
          refine ⟨_, rfl, bt q14 k15, fun q15 => ?_⟩
          have v1 := Lib.hid (fun w' (q : Below w15.heap.size w15 w') => (⟨by rw [Hsl.out HG.out]; exact hd1, by rw [Hsl.out HG.out]; omega, (Rd.own u1).below q, HI.out.t.hw⟩ : NumsRd w' B1 i.start d1))
          have v2 := Lib.hid (fun w' (q : Below w15.heap.size w15 w') => (⟨by simpa using hd2, by simp; omega, (Rd.own u2).below q, Hw0.out⟩ : NumsRd w' B2 (List.replicate n 0) d2))
          clear u1 u2 hd1 hd2 k15 q14 h14
          refine HA.c 29 (back_any B1 B2 n d1 n d2 _) ?_
          rintro _ w16 ⟨rfl, k16⟩
          refine ⟨_, rfl, bt q15 k16, fun q16 => ?_⟩
          refine HA.c 32 (Hrs.out w16 HG.out) ?_
          rintro _ w17 ⟨Z, rfl, oz, k17⟩
          refine ⟨_, rfl, bt q16 k17, fun q17 => ?_⟩
          have hti : NumsRd w17 T i.start ct := HI.out.t.below (Hx.out _ q17)
          rw [Hsl.out HG.out] at oz
          have hsa := Hsa.out B1 B2 T Z d1 d2 ct n w17 (v1.out _ (bt k16 k17)) (v2.out _ (bt k16 k17)) hti ⟨by simp, by simp; omega, Rd.own oz, Hw0.out⟩
          rw [Hsl.out HG.out] at hsa
          clear hti oz q15 q16 k16 k17 v1 v2
          have hsl := Hsl.out HG.out
          refine HA.c 33 hsa ?_
          clear hsl
          rintro _ w18 ⟨rfl, k18⟩
          refine ⟨_, rfl, bt q17 k18, fun q18 => ?_⟩
          clear hsa q17 k18
          refine HA.t ?_ [34, 35, 36, 37, 38, 39, 40, 41, 42, 43, 44, 45] q18 ?_
          refine HA.c 46 (Hsp.out _ (Hx.out _ q18) Hs.out HG.out) ?_
          rintro _ w19 ⟨Y, cy, rfl, _, k19⟩
          refine ⟨_, rfl, bt q18 k19, fun q19 => ?_⟩
          have hbn := Hbn.out HG.out
          rw [hbn.1, hbn.2]
          clear hbn
          refine HA.c 47 (rbatch_none i.data.length i.cfg.batch.toNat i.cfg.steps.toNat (-1) cy Y (epI i) w19 (.inl (by omega))) ?_
          rintro _ w20 ⟨rfl, k20⟩
          refine ⟨_, rfl, bt q19 k20, fun q20 => ?_⟩
          have heqn := eqn_nil
          refine HA.t ?_ [48, 49, 50] q20 ?_
          refine HA.d ?_
          have hB := Hx.out _ q20
          go_wp2_with fail
          go_ret
          exact ⟨rfl, hB⟩
end Go.Proofs.YtfiojofcafjfeaaGreat
