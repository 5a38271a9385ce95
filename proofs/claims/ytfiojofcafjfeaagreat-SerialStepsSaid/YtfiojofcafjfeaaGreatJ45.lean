/- The example of the chapter. An input that came in. The walk of SerialTrains. No condition. -/
import Derived.Test.YtfiojofcafjfeaaGreatJ14
import Derived.Test.YtfiojofcafjfeaaGreatJ42
import Derived.Test.YtfiojofcafjfeaaGreatJ12
import Derived.Test.YtfiojofcafjfeaaGreatJ44
import Derived.Test.YtfiojofcafjfeaaGreatJ43
set_option linter.unusedSimpArgs false
set_option linter.unusedVariables false
namespace Go.Proofs.YtfiojofcafjfeaaGreat
open Go.RowKit

def smallI : Inp := ⟨⟨[1, 1], 1, 0, 0, 1, 1, 1, 0, 1, 1, 1, 1⟩, [([1], [1])], [5, 6], []⟩
theorem rd_blk {w : World} {b : Nat} {xs : List Value} {e : TypeId} (h : w.heap[b]? = some (.cells xs.toArray e (0, 0))) : Rd w (some ⟨b, 0, none⟩) xs := fun k u hu => ⟨b, 0, rfl, by
  rw [Nat.zero_add, cell_of_row w b k _ _ _ h]; simpa using hu⟩
theorem small_good : GoodIn smallI := by
  refine ⟨⟨by decide, by decide, ⟨⟨by decide, fun k hk => ?_⟩, by decide⟩, by decide, by decide, by decide, by decide, by decide, by decide, by decide⟩, by decide, fun x hx => ?_, by decide, by decide⟩
  · have : k = 0 ∨ k = 1 := by have : k < 2 := hk; omega
    rcases this with rfl | rfl <;> decide
  · have : x = ([1], [1]) := by simpa [smallI] using hx
    subst this; decide
def SmallIs (w : World) (e : Ending) (w' : World) : Prop := ∃ A c D cd T ct, e = .returned (.agg (inpVals A c D cd T ct none 0 smallI)) ∧ InpRd w' A c D T ct none smallI ∧ Below w.heap.size w w'
theorem w64_small {l : List Int} (h : ∀ z ∈ l, 0 ≤ z ∧ z ≤ 1048576) : W64 l := fun k hk => by
  have := h _ (nth_mem hk); omega
set_option maxRecDepth 100000 in
theorem small_any (w : World) : Calls Tryz.prog 39 #[] w (SmallIs w) := by
  go_enter Tryz.func39, Tryz.ntmps39
  go_wp2_with fail
  have s1 := size_of_alloc (w := w) rfl (.cells #[.slice (some ⟨w.heap.size + 1, 0, none⟩) 2 2, .int .i64 1, .int .i64 0, .int .i64 0, .int .i64 1, .int .i64 1, .int .i64 1, .int .i64 0, .int .i64 1, .int .i64 1, .int .i64 1, .int .i64 1, .slice (some ⟨w.heap.size + 1 + 1 + 1 + 1 + 1, 0, none⟩) 1 1, .slice (some ⟨w.heap.size + 1 + 1 + 1 + 1 + 1 + 1, 0, none⟩) 2 2, .slice none 0 0] 29)
  have k0 := blk_new w #[.slice (some ⟨w.heap.size + 1, 0, none⟩) 2 2, .int .i64 1, .int .i64 0, .int .i64 0, .int .i64 1, .int .i64 1, .int .i64 1, .int .i64 0, .int .i64 1, .int .i64 1, .int .i64 1, .int .i64 1, .slice (some ⟨w.heap.size + 1 + 1 + 1 + 1 + 1, 0, none⟩) 1 1, .slice (some ⟨w.heap.size + 1 + 1 + 1 + 1 + 1 + 1, 0, none⟩) 2 2, .slice none 0 0] 29 rfl
  have hB1 : Below w.heap.size w (w.alloc (.cells #[.slice (some ⟨w.heap.size + 1, 0, none⟩) 2 2, .int .i64 1, .int .i64 0, .int .i64 0, .int .i64 1, .int .i64 1, .int .i64 1, .int .i64 0, .int .i64 1, .int .i64 1, .int .i64 1, .int .i64 1, .slice (some ⟨w.heap.size + 1 + 1 + 1 + 1 + 1, 0, none⟩) 1 1, .slice (some ⟨w.heap.size + 1 + 1 + 1 + 1 + 1 + 1, 0, none⟩) 2 2, .slice none 0 0] 29)) := (Below.refl _ w).alloc (Nat.le_refl _) _
  generalize w.alloc (.cells #[.slice (some ⟨w.heap.size + 1, 0, none⟩) 2 2, .int .i64 1, .int .i64 0, .int .i64 0, .int .i64 1, .int .i64 1, .int .i64 1, .int .i64 0, .int .i64 1, .int .i64 1, .int .i64 1, .int .i64 1, .slice (some ⟨w.heap.size + 1 + 1 + 1 + 1 + 1, 0, none⟩) 1 1, .slice (some ⟨w.heap.size + 1 + 1 + 1 + 1 + 1 + 1, 0, none⟩) 2 2, .slice none 0 0] 29) = V1 at s1 k0 hB1 ⊢
  have s2 := size_of_alloc s1 (.cells #[.int .i64 1, .int .i64 1] 3)
  have k0 := blk_alloc k0 (.cells #[.int .i64 1, .int .i64 1] 3)
  have k1 := blk_new V1 #[.int .i64 1, .int .i64 1] 3 s1
  have hB2 := hB1.alloc hB1.size (.cells #[.int .i64 1, .int .i64 1] 3)
  generalize V1.alloc (.cells #[.int .i64 1, .int .i64 1] 3) = V2 at s2 k0 k1 hB2 ⊢
  clear s1 hB1
  have s3 := size_of_alloc s2 (.cells #[.slice (some ⟨w.heap.size + 1, 0, none⟩) 2 2, .int .i64 1, .int .i64 0, .int .i64 0, .int .i64 1, .int .i64 1, .int .i64 1, .int .i64 0, .int .i64 1, .int .i64 1, .int .i64 1, .int .i64 1] 24)
  have k0 := blk_alloc k0 (.cells #[.slice (some ⟨w.heap.size + 1, 0, none⟩) 2 2, .int .i64 1, .int .i64 0, .int .i64 0, .int .i64 1, .int .i64 1, .int .i64 1, .int .i64 0, .int .i64 1, .int .i64 1, .int .i64 1, .int .i64 1] 24)
  have k1 := blk_alloc k1 (.cells #[.slice (some ⟨w.heap.size + 1, 0, none⟩) 2 2, .int .i64 1, .int .i64 0, .int .i64 0, .int .i64 1, .int .i64 1, .int .i64 1, .int .i64 0, .int .i64 1, .int .i64 1, .int .i64 1, .int .i64 1] 24)
  have k2 := blk_new V2 #[.slice (some ⟨w.heap.size + 1, 0, none⟩) 2 2, .int .i64 1, .int .i64 0, .int .i64 0, .int .i64 1, .int .i64 1, .int .i64 1, .int .i64 0, .int .i64 1, .int .i64 1, .int .i64 1, .int .i64 1] 24 s2
  have hB3 := hB2.alloc hB2.size (.cells #[.slice (some ⟨w.heap.size + 1, 0, none⟩) 2 2, .int .i64 1, .int .i64 0, .int .i64 0, .int .i64 1, .int .i64 1, .int .i64 1, .int .i64 0, .int .i64 1, .int .i64 1, .int .i64 1, .int .i64 1] 24)
  generalize V2.alloc (.cells #[.slice (some ⟨w.heap.size + 1, 0, none⟩) 2 2, .int .i64 1, .int .i64 0, .int .i64 0, .int .i64 1, .int .i64 1, .int .i64 1, .int .i64 0, .int .i64 1, .int .i64 1, .int .i64 1, .int .i64 1] 24) = V3 at s3 k0 k1 k2 hB3 ⊢
  clear s2 hB2
  have s4 := size_of_alloc s3 (.cells #[.int .i64 1] 2)
  have k0 := blk_alloc k0 (.cells #[.int .i64 1] 2)
  have k1 := blk_alloc k1 (.cells #[.int .i64 1] 2)
  have k2 := blk_alloc k2 (.cells #[.int .i64 1] 2)
  have k3 := blk_new V3 #[.int .i64 1] 2 s3
  have hB4 := hB3.alloc hB3.size (.cells #[.int .i64 1] 2)
  generalize V3.alloc (.cells #[.int .i64 1] 2) = V4 at s4 k0 k1 k2 k3 hB4 ⊢
  clear s3 hB3
  have s5 := size_of_alloc s4 (.cells #[.int .i64 1] 2)
  have k0 := blk_alloc k0 (.cells #[.int .i64 1] 2)
  have k1 := blk_alloc k1 (.cells #[.int .i64 1] 2)
  have k2 := blk_alloc k2 (.cells #[.int .i64 1] 2)
  have k3 := blk_alloc k3 (.cells #[.int .i64 1] 2)
  have k4 := blk_new V4 #[.int .i64 1] 2 s4
  have hB5 := hB4.alloc hB4.size (.cells #[.int .i64 1] 2)
  generalize V4.alloc (.cells #[.int .i64 1] 2) = V5 at s5 k0 k1 k2 k3 k4 hB5 ⊢
  clear s4 hB4
  have s6 := size_of_alloc s5 (.cells #[.slice (some ⟨w.heap.size + 1 + 1 + 1, 0, none⟩) 1 1, .slice (some ⟨w.heap.size + 1 + 1 + 1 + 1, 0, none⟩) 1 1] 64)
  have k0 := blk_alloc k0 (.cells #[.slice (some ⟨w.heap.size + 1 + 1 + 1, 0, none⟩) 1 1, .slice (some ⟨w.heap.size + 1 + 1 + 1 + 1, 0, none⟩) 1 1] 64)
  have k1 := blk_alloc k1 (.cells #[.slice (some ⟨w.heap.size + 1 + 1 + 1, 0, none⟩) 1 1, .slice (some ⟨w.heap.size + 1 + 1 + 1 + 1, 0, none⟩) 1 1] 64)
  have k2 := blk_alloc k2 (.cells #[.slice (some ⟨w.heap.size + 1 + 1 + 1, 0, none⟩) 1 1, .slice (some ⟨w.heap.size + 1 + 1 + 1 + 1, 0, none⟩) 1 1] 64)
  have k3 := blk_alloc k3 (.cells #[.slice (some ⟨w.heap.size + 1 + 1 + 1, 0, none⟩) 1 1, .slice (some ⟨w.heap.size + 1 + 1 + 1 + 1, 0, none⟩) 1 1] 64)
  have k4 := blk_alloc k4 (.cells #[.slice (some ⟨w.heap.size + 1 + 1 + 1, 0, none⟩) 1 1, .slice (some ⟨w.heap.size + 1 + 1 + 1 + 1, 0, none⟩) 1 1] 64)
  have k5 := blk_new V5 #[.slice (some ⟨w.heap.size + 1 + 1 + 1, 0, none⟩) 1 1, .slice (some ⟨w.heap.size + 1 + 1 + 1 + 1, 0, none⟩) 1 1] 64 s5
  have hB6 := hB5.alloc hB5.size (.cells #[.slice (some ⟨w.heap.size + 1 + 1 + 1, 0, none⟩) 1 1, .slice (some ⟨w.heap.size + 1 + 1 + 1 + 1, 0, none⟩) 1 1] 64)
  generalize V5.alloc (.cells #[.slice (some ⟨w.heap.size + 1 + 1 + 1, 0, none⟩) 1 1, .slice (some ⟨w.heap.size + 1 + 1 + 1 + 1, 0, none⟩) 1 1] 64) = V6 at s6 k0 k1 k2 k3 k4 k5 hB6 ⊢
  clear s5 hB5
  have s7 := size_of_alloc s6 (.cells #[.int .i64 5, .int .i64 6] 2)
  have k0 := blk_alloc k0 (.cells #[.int .i64 5, .int .i64 6] 2)
  have k1 := blk_alloc k1 (.cells #[.int .i64 5, .int .i64 6] 2)
  have k2 := blk_alloc k2 (.cells #[.int .i64 5, .int .i64 6] 2)
  have k3 := blk_alloc k3 (.cells #[.int .i64 5, .int .i64 6] 2)
  have k4 := blk_alloc k4 (.cells #[.int .i64 5, .int .i64 6] 2)
  have k5 := blk_alloc k5 (.cells #[.int .i64 5, .int .i64 6] 2)
  have k6 := blk_new V6 #[.int .i64 5, .int .i64 6] 2 s6
  have hB7 := hB6.alloc hB6.size (.cells #[.int .i64 5, .int .i64 6] 2)
  generalize V6.alloc (.cells #[.int .i64 5, .int .i64 6] 2) = V7 at s7 k0 k1 k2 k3 k4 k5 k6 hB7 ⊢
  clear s6 hB6

  have r0 := cell_of_row V7 _ 0 _ _ _ k0
  have r1 := cell_of_row V7 _ 1 _ _ _ k0
  have r2 := cell_of_row V7 _ 2 _ _ _ k0
  have r3 := cell_of_row V7 _ 3 _ _ _ k0
  have r4 := cell_of_row V7 _ 4 _ _ _ k0
  have r5 := cell_of_row V7 _ 5 _ _ _ k0
  have r6 := cell_of_row V7 _ 6 _ _ _ k0
  have r7 := cell_of_row V7 _ 7 _ _ _ k0
  have r8 := cell_of_row V7 _ 8 _ _ _ k0
  have r9 := cell_of_row V7 _ 9 _ _ _ k0
  have r10 := cell_of_row V7 _ 10 _ _ _ k0
  have r11 := cell_of_row V7 _ 11 _ _ _ k0
  have r12 := cell_of_row V7 _ 12 _ _ _ k0
  have r13 := cell_of_row V7 _ 13 _ _ _ k0
  have r14 := cell_of_row V7 _ 14 _ _ _ k0
  have rf := fun j => frozen_of_row V7 _ j _ _ k0
  refine bodyPost_ret (v := .agg #[.slice (some ⟨w.heap.size + 1, 0, none⟩) 2 2, .int .i64 1, .int .i64 0, .int .i64 0, .int .i64 1, .int .i64 1, .int .i64 1, .int .i64 0, .int .i64 1, .int .i64 1, .int .i64 1, .int .i64 1, .slice (some ⟨w.heap.size + 1 + 1 + 1 + 1 + 1, 0, none⟩) 1 1, .slice (some ⟨w.heap.size + 1 + 1 + 1 + 1 + 1 + 1, 0, none⟩) 2 2, .slice none 0 0]) (by simp [results, Tryz.results39, go_sem, r0, r1, r2, r3, r4, r5, r6, r7, r8, r9, r10, r11, r12, r13, r14]) rfl ⟨_, _, _, _, _, _, rfl, ⟨⟨by decide, by decide, by decide, rd_blk k1⟩, ?_, by decide, ⟨by decide, by decide, rd_blk k6, w64_small (by simp [smallI])⟩, by decide, Rd.nil _ _, by decide, fun k hk => by simp [smallI] at hk, by decide, by decide⟩, hB7⟩
  refine ⟨[[.slice (some ⟨w.heap.size + 1 + 1 + 1, 0, none⟩) 1 1, .slice (some ⟨w.heap.size + 1 + 1 + 1 + 1, 0, none⟩) 1 1]], rd_blk k5, rfl, by simp, fun j x hx => ?_⟩
  have hj : j = 0 := by have := (List.getElem?_eq_some_iff.1 hx).1; simp [smallI] at this; omega
  subst hj
  have : x = ([1], [1]) := by simpa [smallI] using hx.symm
  subst this
  exact ⟨_, _, _, _, rfl, ⟨by decide, by decide, rd_blk k3, w64_small (by simp)⟩, ⟨by decide, by decide, rd_blk k4, w64_small (by simp)⟩⟩

set_option maxRecDepth 100000 in
theorem alive14_any (w : World) : Calls Tryz.prog 10 #[] w fun e w' => e = .returned (.bool true) ∧ Below w.heap.size w w' := by
  have hs := small_any w
  have htr := fun A c D cd T ct w' (h : InpRd w' A c D T ct none smallI) => train_any A c D cd T ct none 0 smallI w' h
  have Hs := Lib.hid hs; have Htr := Lib.hid htr; clear hs htr
  go_enter Tryz.func10, Tryz.ntmps10
  go_wp2_with fail
  refine Hs.out.mono ?_
  rintro e w1 ⟨A, c, D, cd, T, ct, rfl, hI, hb1⟩
  have htr := Htr.out A c D cd T ct w1 hI
  dsimp only [inpVals] at htr
  have Htr2 := Lib.hid htr
  have HB1 := Lib.hid hb1
  clear htr hI hb1
  dsimp only [inpVals]
  go_wp2_with fail
  refine Htr2.out.mono ?_
  rintro e w2 ⟨hb2, hres⟩
  rw [show smallI.cfg.steps.toNat + 1 = 1 from rfl] at hres
  obtain ⟨_, A2, c2, rfl, _, hR⟩ | ⟨hng, _⟩ := hres
  · have hx : (trajL smallI 1)[0]? = some (traj smallI 0) := trajL_at smallI (by decide)
    obtain ⟨b, o, P, d1, M, d2, rfl, hbl, p1, p2, r1, r2⟩ := ex_cells hR hx
    have h5 : (traj smallI 0).1 = [5, 6] := rfl
    rw [h5] at p1
    have hr := r1.hr
    rw [h5] at hr
    obtain ⟨bp, op, rfl, q1⟩ := hr.num (k := 0) (by decide)
    rw [show nth [5, 6] 0 = 5 from rfl, Nat.add_zero] at q1
    rw [show o + 0 * 2 = o by omega] at p1
    have p1 : w2.cell? ⟨b, o, none⟩ = some (.slice (some ⟨bp, op, none⟩) 2 d1) := p1
    have HB2 := Lib.hid (HB1.out.trans (hb2.mono HB1.out.size))
    clear hR hx p2 r1 r2 h5 hr hb2
    go_wp2_with fail
    go_ret
    exact ⟨rfl, HB2.out⟩
  · exact absurd small_good hng
end Go.Proofs.YtfiojofcafjfeaaGreat
namespace Go.Proofs.YtfiojofcafjfeaaGreat
open Go.RowKit Go.ChangeShapes Go.WideShapes Go.ChangeAt

theorem opens_l : Opens Tryz.prog 2 1 (rInt .i64) := opens_int Tryz.underlying2 (by kernel_rfl)
theorem opens_u64s : Opens Tryz.prog 27 1 (rNums .u64) := opens_nums Tryz.underlying27 Tryz.underlying62 (by kernel_rfl) (by kernel_rfl) (by kernel_rfl)
theorem wf_U64 {l : List Int} (h : ∀ z ∈ l, (Lit.int .u64 z).wf = true) : U64 l := fun k hk => by
  have := h _ (nth_mem hk)
  simpa [Lit.wf, IntKind.min, IntKind.max, IntKind.signed, IntKind.bits] using this
theorem wf_one {z : Int} (h : (Lit.int .i64 z).wf = true) : -9223372036854775808 ≤ z ∧ z ≤ 9223372036854775807 := by
  simpa [Lit.wf, IntKind.min, IntKind.max, IntKind.signed, IntKind.bits] using h
theorem cells_exO : Tryz.prog.cellsOf 64 = 2 := by kernel_rfl
theorem cells_cfgO : Tryz.prog.cellsOf 24 = 12 := by kernel_rfl
theorem cells_inpO : Tryz.prog.cellsOf 29 = 15 := by kernel_rfl
theorem rNums_rd {w : World} {A : Option Addr} {zs : List Int} {c : Nat} (h2 : zs.length ≤ c) (h6 : zs.length ≤ 17592186043904) (h4 : Rd w A (nums .i64 zs)) (h5 : ∀ z ∈ zs, (Lit.int .i64 z).wf = true) : NumsRd w A zs c := ⟨h2, h6, h4, wf_W64 h5⟩
set_option maxRecDepth 100000 in
theorem opens_ex : Opens Tryz.prog 64 2 rEx := ⟨cells_exO, fun {H enc W fuel cs x} h hlt => by
  obtain ⟨xs, n, _, hx, hl, hlen, hf⟩ := DataW.trod_struct Tryz.underlying64 h
  rw [cells_exO] at hl
  have hlen' : xs.length = 2 := hlen
  obtain ⟨x1, A, c, a1, a2, a3, a4, a5, a6⟩ := field_opens opens_i64s Tryz.underlying64 hx hlt (hf 0 _ rfl) (by omega) rfl
  obtain ⟨y1, B, d, b1, b2, b3, b4, b5, b6⟩ := field_opens opens_i64s Tryz.underlying64 hx hlt (hf 1 _ rfl) (by omega) rfl
  clear h hf hlen hlen' hx hlt
  match cs, hl with
  | [c0, c1], _ =>
    simp at a1 b1
    exact ⟨rfl, ⟨x1, y1⟩, A, c, B, d, by simp [a1, b1], rNums_rd a2 a4 a5 a6, rNums_rd b2 b4 b5 b6⟩⟩
theorem opens_exs : Opens Tryz.prog 25 1 (rSl rEx 2) := opens_slice Tryz.underlying25 opens_ex (by kernel_rfl) (of_decide_eq_true (by kernel_rfl))
def rCfg : Reader Cfg := fun w cs k => ∃ A c, cs = (cfgVals A c k).toList ∧ CfgRd w A c k ∧ (-9223372036854775808 ≤ k.rate ∧ k.rate ≤ 9223372036854775807) ∧ (-9223372036854775808 ≤ k.mom ∧ k.mom ≤ 9223372036854775807) ∧ W64 k.sizes ∧ W64 [k.shift, k.workers, k.batch, k.micros, k.steps, k.bucket, k.chunk, k.window, k.cap]
set_option maxRecDepth 100000 in
set_option maxHeartbeats 1000000 in
theorem opens_cfg : Opens Tryz.prog 24 12 rCfg := ⟨cells_cfgO, fun {H enc W fuel cs x} h hlt => by
  obtain ⟨xs, n, _, hx, hl, hlen, hf⟩ := DataW.trod_struct Tryz.underlying24 h
  rw [cells_cfgO] at hl
  have hlen' : xs.length = 12 := hlen
  obtain ⟨sz, A, c, a1, a2, a3, a4, a5, a6⟩ := field_opens opens_ints Tryz.underlying24 hx hlt (hf 0 _ rfl) (by omega) rfl
  obtain ⟨z1, h1, g1⟩ := field_opens opens_i Tryz.underlying24 hx hlt (hf 1 _ rfl) (by omega) rfl
  obtain ⟨z2, h2, g2⟩ := field_opens opens_l Tryz.underlying24 hx hlt (hf 2 _ rfl) (by omega) rfl
  obtain ⟨z3, h3, g3⟩ := field_opens opens_l Tryz.underlying24 hx hlt (hf 3 _ rfl) (by omega) rfl
  obtain ⟨z4, h4, g4⟩ := field_opens opens_i Tryz.underlying24 hx hlt (hf 4 _ rfl) (by omega) rfl
  obtain ⟨z5, h5, g5⟩ := field_opens opens_i Tryz.underlying24 hx hlt (hf 5 _ rfl) (by omega) rfl
  obtain ⟨z6, h6, g6⟩ := field_opens opens_i Tryz.underlying24 hx hlt (hf 6 _ rfl) (by omega) rfl
  obtain ⟨z7, h7, g7⟩ := field_opens opens_i Tryz.underlying24 hx hlt (hf 7 _ rfl) (by omega) rfl
  obtain ⟨z8, h8, g8⟩ := field_opens opens_i Tryz.underlying24 hx hlt (hf 8 _ rfl) (by omega) rfl
  obtain ⟨z9, h9, g9⟩ := field_opens opens_i Tryz.underlying24 hx hlt (hf 9 _ rfl) (by omega) rfl
  obtain ⟨z10, h10, g10⟩ := field_opens opens_i Tryz.underlying24 hx hlt (hf 10 _ rfl) (by omega) rfl
  obtain ⟨z11, h11, g11⟩ := field_opens opens_i Tryz.underlying24 hx hlt (hf 11 _ rfl) (by omega) rfl
  clear h hf hlen hlen' hx hlt
  match cs, hl with
  | [c0, c1, c2, c3, c4, c5, c6, c7, c8, c9, c10, c11], _ =>
    simp at a1 h1 h2 h3 h4 h5 h6 h7 h8 h9 h10 h11
    refine ⟨rfl, ⟨sz, z1, z2, z3, z4, z5, z6, z7, z8, z9, z10, z11⟩, A, c, by simp [cfgVals, a1, h1, h2, h3, h4, h5, h6, h7, h8, h9, h10, h11], ⟨a2, a3, a4, a5⟩, wf_one g2, wf_one g3, wf_W64 a6, ?_⟩
    refine wf_W64 fun z hz => ?_
    simp only [List.mem_cons, List.not_mem_nil, or_false] at hz
    rcases hz with rfl | rfl | rfl | rfl | rfl | rfl | rfl | rfl | rfl <;> assumption⟩
def rInpA : Reader Inp := fun w cs i => ∃ A c D cd T ct R cr, cs = (inpVals A c D cd T ct R cr i).toList ∧ InpRaw w A c D T ct R i ∧ i.data.length ≤ cd ∧ cd ≤ 9223372036854775807 ∧ i.draws.length ≤ cr ∧ cr ≤ 9223372036854775807 ∧ ct ≤ 9223372036854775807 ∧ W64 i.cfg.sizes ∧ W64 [i.cfg.shift, i.cfg.workers, i.cfg.batch, i.cfg.micros, i.cfg.steps, i.cfg.bucket, i.cfg.chunk, i.cfg.window, i.cfg.cap]
set_option maxRecDepth 100000 in
set_option maxHeartbeats 1000000 in
theorem opens_inp : Opens Tryz.prog 29 15 rInpA := ⟨cells_inpO, fun {H enc W fuel cs x} h hlt => by
  obtain ⟨xs, n, _, hx, hl, hlen, hf⟩ := DataW.trod_struct Tryz.underlying29 h
  rw [cells_inpO] at hl
  have hlen' : xs.length = 4 := hlen
  obtain ⟨k, A, c, k1, k2, k3, k4, k5, k6⟩ := field_opens opens_cfg Tryz.underlying29 hx hlt (hf 0 _ rfl) (by omega) rfl
  obtain ⟨da, D, cd, d1, d2, d3, d4, d5⟩ := field_opens opens_exs Tryz.underlying29 hx hlt (hf 1 _ rfl) (by omega) rfl
  obtain ⟨st, T, ct, t1, t2, t3, t4, t5, t6⟩ := field_opens opens_i64s Tryz.underlying29 hx hlt (hf 2 _ rfl) (by omega) rfl
  obtain ⟨dr, R, cr, r1, r2, r3, r4, r5, r6⟩ := field_opens opens_u64s Tryz.underlying29 hx hlt (hf 3 _ rfl) (by omega) rfl
  clear h hf hlen hlen' hx hlt
  match cs, hl with
  | [c0, c1, c2, c3, c4, c5, c6, c7, c8, c9, c10, c11, c12, c13, c14], _ =>
    simp [cfgVals] at k1 d1 t1 r1
    exact ⟨rfl, ⟨k, da, st, dr⟩, A, c, D, cd, T, ct, R, cr, by simp [inpVals, k1, d1, t1, r1], ⟨k2, d5, d4, rNums_rd t2 t4 t5 t6, r5, r4, wf_U64 r6, k3, k4⟩, d2, d3, r2, r3, t3, k5, k6⟩⟩
set_option maxRecDepth 100000 in
theorem open_inp {H : Type} {enc : TypeId × Value → H} {W : World} {base : Nat} {v : Value} {d : DataW H} {p : List MemPlace} (o : Value.okWide Tryz.prog W .any base 29 v) (h : DataW.Trod enc Tryz.prog W 0 (fun _ => true) true 29 v d p) (z : Light Tryz.prog 29 d) :
    ∃ (A : Option Addr) (c : Nat) (D : Option Addr) (cd : Nat) (T : Option Addr) (ct : Nat) (R : Option Addr) (cr : Nat) (i : Inp), v = .agg (inpVals A c D cd T ct R cr i) ∧ InpRaw W A c D T ct R i ∧ i.data.length ≤ cd ∧ cd ≤ 9223372036854775807 ∧ i.draws.length ≤ cr ∧ cr ≤ 9223372036854775807 ∧ ct ≤ 9223372036854775807 ∧ W64 i.cfg.sizes ∧ W64 [i.cfg.shift, i.cfg.workers, i.cfg.batch, i.cfg.micros, i.cfg.steps, i.cfg.bucket, i.cfg.chunk, i.cfg.window, i.cfg.cap] := by
  obtain ⟨cs, rfl, _⟩ := okWide_struct Tryz.underlying29 o
  obtain ⟨i, ⟨A, c, D, cd, T, ct, R, cr, e, h1⟩, _⟩ := opens_param opens_inp h z
  refine ⟨A, c, D, cd, T, ct, R, cr, i, ?_, h1⟩
  obtain ⟨l⟩ := cs
  have e' : l = _ := e
  rw [e']
end Go.Proofs.YtfiojofcafjfeaaGreat
namespace Go.Proofs.YtfiojofcafjfeaaGreat
open Go.RowKit Go.ChangeShapes Go.WideShapes Go.ChangeAt

open Classical in
/-- The states that Train answers. -/
noncomputable def resL (i : Inp) : List Ex := if GoodIn i then trajL i (i.cfg.steps.toNat + 1) else []
theorem resL_len (i : Inp) : (resL i).length ≤ 1048577 := by
  unfold resL
  split
  · rename_i h; have := h.c.st; rw [trajL_len]; omega
  · simp
def TrRes (i : Inp) (w : World) (e : Ending) (w' : World) : Prop := ∃ A c, e = .returned (.tuple #[.slice A (resL i).length c, .int .i64 (inCode i)]) ∧ SlRd rEx 2 w' A (resL i) ∧ Below w.heap.size w w'
theorem TrainIs.res {i : Inp} {w : World} {e : Ending} {w' : World} (h : TrainIs i w e w') : TrRes i w e w' := by
  obtain ⟨hb, ⟨hg, A, c, rfl, _, hR⟩ | ⟨hng, rfl⟩⟩ := h
  · exact ⟨A, c, by unfold resL; rw [if_pos hg, trajL_len, in_good.2 hg], by unfold resL; rw [if_pos hg]; exact hR, hb⟩
  · exact ⟨none, 0, by unfold resL; rw [if_neg hng]; rfl, by unfold resL; rw [if_neg hng]; exact SlRd.nil _ _ _ _, hb⟩
theorem RTrainIs.res {i : Inp} {w : World} {e : Ending} {w' : World} (h : RTrainIs i w e w') : TrRes i w e w' := by
  obtain ⟨hb, ⟨hg, A, c, rfl, hR⟩ | ⟨hng, rfl⟩⟩ := h
  · exact ⟨A, c, by unfold resL; rw [if_pos hg, trajL_len, in_good.2 hg], by unfold resL; rw [if_pos hg]; exact hR, hb⟩
  · exact ⟨none, 0, by unfold resL; rw [if_neg hng]; rfl, by unfold resL; rw [if_neg hng]; exact SlRd.nil _ _ _ _, hb⟩
theorem rtrain_any (A : Option Addr) (c : Nat) (D : Option Addr) (cd : Nat) (T : Option Addr) (ct : Nat) (R : Option Addr) (cr : Nat) (i : Inp) (w : World) (h : InpRd w A c D T ct R i) :
    Calls Tryz.prog 12 #[.agg (inpVals A c D cd T ct R cr i)] w (RTrainIs i w) := by
  by_cases hg : inCode i = 0
  · exact rtrain_good A c D cd T ct R cr i w h (in_good.1 hg)
  · exact rtrain_bad A c D cd T ct R cr i w h hg

set_option maxRecDepth 100000 in
set_option maxHeartbeats 1000000 in
theorem SerialTrains_walk {H : Type} {enc : TypeId × Value → H} {base : Nat} {v0 : Value} {d0 : DataW H} {p0 : List MemPlace} (W : World)
    (o0 : Value.okWide Tryz.prog W .any base 29 v0) (h0 : DataW.Trod enc Tryz.prog W 0 (fun _ => true) true 29 v0 d0 p0) (z0 : Light Tryz.prog 29 d0) :
    Calls Tryz.prog 3 #[v0] W fun e w' => e = .returned (.bool true) ∧ Below W.heap.size W w' := by
  obtain ⟨A, c, D, cd, T, ct, R, cr, i, rfl, hI, _⟩ := open_inp o0 h0 z0
  clear o0 h0 z0
  have hfew := fun w' (q : Below W.heap.size W w') => fewrun_any A c D cd T ct R cr i w' (hI.below q)
  have htr := fun w' (q : Below W.heap.size W w') (hs : SmallI i) => (train_any A c D cd T ct R cr i w' ((hI.below q).rd hs)).mono (fun _ _ h => h.res)
  have hrt := fun w' (q : Below W.heap.size W w') (hs : SmallI i) => (rtrain_any A c D cd T ct R cr i w' ((hI.below q).rd hs)).mono (fun _ _ h => h.res)
  have hal := fun w' => alive14_any w'
  have hbk := fun w' A' c' (h : SlRd rEx 2 w' A' (resL i)) => backs_any A' (resL i) c' w' h (resL_len i)
  have hsm := fun w' A1 A2 c1 c2 (h1 : SlRd rEx 2 w' A1 (resL i)) (h2 : SlRd rEx 2 w' A2 (resL i)) => stall_any A1 A2 (resL i) (resL i) c1 c2 w' h1 h2 (resL_len i) (resL_len i)
  simp only [decide_true] at hsm
  unfold TrRes at htr hrt
  unfold FewI at hfew
  obtain ⟨n, hn⟩ : ∃ n, (resL i).length = n := ⟨_, rfl⟩
  obtain ⟨z, hz⟩ : ∃ z, inCode i = z := ⟨_, rfl⟩
  simp only [hn, hz] at htr hrt hbk hsm
  dsimp only [inpVals] at hfew htr hrt
  have hx := blk_new W (inpVals A c D cd T ct R cr i) 29 rfl
  have hB : Below W.heap.size W (W.alloc (.cells (inpVals A c D cd T ct R cr i) 29)) := (Below.refl _ W).alloc (Nat.le_refl _) _
  dsimp only [inpVals] at hx hB
  have Hfew := Lib.hid hfew; have Htr := Lib.hid htr; have Hrt := Lib.hid hrt; have Hal := Lib.hid hal; have Hbk := Lib.hid hbk; have Hsm := Lib.hid hsm; have HX := Lib.hid hx; have HB := Lib.hid hB
  clear hfew htr hrt hal hbk hsm hI hn hz hx hB
  go_enter Tryz.func3, Tryz.ntmps3
  dsimp only [inpVals]
  go_wp2_with fail
  have hx := HX.out; have hB := HB.out
  generalize W.alloc _ = W1 at hx hB ⊢
  refine (Hfew.out W1 hB).mono ?_
  rintro e w2 ⟨⟨b, rfl, hbs⟩, hb2⟩
  have hB2 := hB.trans (hb2.mono hB.size)
  have hx2 := (hb2.block _ (lt_of_block hx)).trans hx
  have HB2 := Lib.hid hB2; have HX2 := Lib.hid hx2
  have hlx := lt_of_block hx2
  clear hb2 hB hx HX HB
  rcases bool_ft b with rfl | rfl
  · clear hbs hB2 hx2
    go_wp2_with fail
    refine (Hal.out _).mono ?_
    rintro e w3 ⟨rfl, hb3⟩
    have HB3 := Lib.hid (HB2.out.trans (hb3.mono HB2.out.size))
    clear hb3
    go_wp2_with fail
    go_ret
    exact ⟨rfl, HB3.out⟩
  · have Hs := Lib.hid (hbs rfl)
    have t0 := cell_of_row w2 _ 0 _ _ _ hx2
    have t1 := cell_of_row w2 _ 1 _ _ _ hx2
    have t2 := cell_of_row w2 _ 2 _ _ _ hx2
    have t3 := cell_of_row w2 _ 3 _ _ _ hx2
    have t4 := cell_of_row w2 _ 4 _ _ _ hx2
    have t5 := cell_of_row w2 _ 5 _ _ _ hx2
    have t6 := cell_of_row w2 _ 6 _ _ _ hx2
    have t7 := cell_of_row w2 _ 7 _ _ _ hx2
    have t8 := cell_of_row w2 _ 8 _ _ _ hx2
    have t9 := cell_of_row w2 _ 9 _ _ _ hx2
    have t10 := cell_of_row w2 _ 10 _ _ _ hx2
    have t11 := cell_of_row w2 _ 11 _ _ _ hx2
    have t12 := cell_of_row w2 _ 12 _ _ _ hx2
    have t13 := cell_of_row w2 _ 13 _ _ _ hx2
    have t14 := cell_of_row w2 _ 14 _ _ _ hx2
    have tf := fun j => frozen_of_row w2 _ j _ _ hx2
    clear hbs hB2 hx2
    go_wp2_with fail
    refine (Htr.out w2 HB2.out Hs.out).mono ?_
    rintro e w3 ⟨A1, c1, rfl, hR1, hb3⟩
    have hB3 := HB2.out.trans (hb3.mono HB2.out.size)
    have hx3 := (hb3.block _ hlx).trans HX2.out
    clear t0 t1 t2 t3 t4 t5 t6 t7 t8 t9 t10 t11 t12 t13 t14 tf
    have HR1 := Lib.hid hR1; have HB3 := Lib.hid hB3
    have hlx3 := lt_of_block hx3
    have t0 := cell_of_row w3 _ 0 _ _ _ hx3
    have t1 := cell_of_row w3 _ 1 _ _ _ hx3
    have t2 := cell_of_row w3 _ 2 _ _ _ hx3
    have t3 := cell_of_row w3 _ 3 _ _ _ hx3
    have t4 := cell_of_row w3 _ 4 _ _ _ hx3
    have t5 := cell_of_row w3 _ 5 _ _ _ hx3
    have t6 := cell_of_row w3 _ 6 _ _ _ hx3
    have t7 := cell_of_row w3 _ 7 _ _ _ hx3
    have t8 := cell_of_row w3 _ 8 _ _ _ hx3
    have t9 := cell_of_row w3 _ 9 _ _ _ hx3
    have t10 := cell_of_row w3 _ 10 _ _ _ hx3
    have t11 := cell_of_row w3 _ 11 _ _ _ hx3
    have t12 := cell_of_row w3 _ 12 _ _ _ hx3
    have t13 := cell_of_row w3 _ 13 _ _ _ hx3
    have t14 := cell_of_row w3 _ 14 _ _ _ hx3
    have tf := fun j => frozen_of_row w3 _ j _ _ hx3
    clear hb3 hR1 hB3 hx3 HX2
    go_wp2_with fail
    refine (Hrt.out w3 HB3.out Hs.out).mono ?_
    rintro e w4 ⟨A2, c2, rfl, hR2, hb4⟩
    have HB4 := Lib.hid (HB3.out.trans (hb4.mono HB3.out.size))
    have hR1 : SlRd rEx 2 w4 A1 (resL i) := HR1.out.below stays_ex hb4
    have HR14 := Lib.hid hR1; have HR2 := Lib.hid hR2
    clear t0 t1 t2 t3 t4 t5 t6 t7 t8 t9 t10 t11 t12 t13 t14 tf hb4 hR1 hR2
    go_wp2_with fail
    refine (Hal.out _).mono ?_
    rintro e w5 ⟨rfl, hb5⟩
    have HB5 := Lib.hid (HB4.out.trans (hb5.mono HB4.out.size))
    have hR15 : SlRd rEx 2 w5 A1 (resL i) := HR14.out.below stays_ex hb5
    have hR25 : SlRd rEx 2 w5 A2 (resL i) := HR2.out.below stays_ex hb5
    have HR15 := Lib.hid hR15; have HR25 := Lib.hid hR25
    clear hb5 hR15 hR25
    go_wp2_with fail
    refine (Hbk.out w5 A1 c1 HR15.out).mono ?_
    rintro e w6 ⟨A3, c3, rfl, hR36, hb6⟩
    have HB6 := Lib.hid (HB5.out.trans (hb6.mono HB5.out.size))
    have hR26 : SlRd rEx 2 w6 A2 (resL i) := HR25.out.below stays_ex hb6
    have HR26 := Lib.hid hR26; have HR36 := Lib.hid hR36
    clear hb6 hR26 hR36
    go_wp2_with fail
    refine (Hsm.out w6 A3 A2 c3 c2 HR36.out HR26.out).mono ?_
    rintro e w7 ⟨rfl, hb7⟩
    have HB7 := Lib.hid (HB6.out.trans (hb7.mono HB6.out.size))
    clear hb7
    go_wp2_with fail
    go_ret
    exact ⟨rfl, HB7.out⟩
end Go.Proofs.YtfiojofcafjfeaaGreat
