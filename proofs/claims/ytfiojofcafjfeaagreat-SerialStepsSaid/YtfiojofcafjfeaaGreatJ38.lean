/- The reference's Next of a state. No condition. -/
import Derived.Test.YtfiojofcafjfeaaGreatJ22
import Derived.Test.YtfiojofcafjfeaaGreatJ14
import Derived.Test.YtfiojofcafjfeaaGreatJ04
import Derived.Test.YtfiojofcafjfeaaGreatJ25
import Derived.Test.YtfiojofcafjfeaaGreatJ08
import Derived.Deep.RegionHeld3
set_option linter.unusedSimpArgs false
set_option linter.unusedVariables false
namespace Go.Proofs.YtfiojofcafjfeaaGreat
open Go.RowKit

/-- Where the loop of Next has come to. -/
def NxtI (ra mo q : Int) (P M g : List Int) (b B k : Nat) (W0 w : World) : Prop := ∃ A1 c1 A2 c2, w.heap[b]? = some (.cells #[.slice A1 k c1, .slice A2 k c2] 68 (0, 0)) ∧
  w.ownsRow B 2 1 (.slice A1 k c1) k (nums .i64 (upTo k fun j => stepP ra q (nth P j) (stepM mo q (nth M j) (nth g j)))) ∧
  w.ownsRow B 2 1 (.slice A2 k c2) k (nums .i64 (upTo k fun j => stepM mo q (nth M j) (nth g j))) ∧
  (∀ i, (Value.slice A1 k c1).ownBlock = some i → (Value.slice A2 k c2).ownBlock ≠ some i) ∧ Keep (fun j => j = b) W0 w
theorem nx_lt {n k : Nat} (h : k < n) : (k : Int) < n := by omega
theorem nx_m {n k : Nat} (h : k < n) : n - (k + 1) < n - k := by omega
def RNext13Is (ra mo q : Int) (P M g : List Int) (n : Nat) (w : World) (e : Ending) (w' : World) : Prop := ∃ A1 c1 A2 c2, e = .returned (.tuple #[.agg #[.slice A1 n c1, .slice A2 n c2], .bool true]) ∧
  w'.ownsRow w.heap.size 2 1 (.slice A1 n c1) n (nums .i64 (nextP ra mo q P M g)) ∧ w'.ownsRow w.heap.size 2 1 (.slice A2 n c2) n (nums .i64 (nextM mo q M g)) ∧ Below w.heap.size w w'

set_option maxRecDepth 100000 in
set_option maxHeartbeats 1000000 in
theorem rnext13_any (ra mo q : Int) (A B G : Option Addr) (P M g : List Int) (n ca cb cg : Nat) (w : World) (hA : Rd w A (nums .i64 P)) (hB : Rd w B (nums .i64 M)) (hG : Rd w G (nums .i64 g)) (hP : P.length = n) (hM : M.length = n) (hg : g.length = n) (hn : n ≤ 1048576) (wM : W64 M) (wr' : -9223372036854775808 ≤ ra ∧ ra ≤ 9223372036854775807) (wm' : -9223372036854775808 ≤ mo ∧ mo ≤ 9223372036854775807) :
    Calls Tryz.prog 40 #[.agg #[.int .i64 ra, .int .i64 mo, .int .i64 q], .agg #[.slice A n ca, .slice B n cb], .slice G n cg] w (RNext13Is ra mo q P M g n w) := by
  have hm1 := fun k w' => refMul mo (nth M k) q w' wm' (wM.nth k)
  have hm2 := fun x w' (hx : -9223372036854775808 ≤ x ∧ x ≤ 9223372036854775807) => refMul ra x q w' wr' hx
  have HA := Lib.hid hA; have HB := Lib.hid hB; have HG := Lib.hid hG; have HP := Lib.hid hP; have HM := Lib.hid hM; have Hg := Lib.hid hg; have Hm1 := Lib.hid hm1; have Hm2 := Lib.hid hm2
  clear hA hB hG hP hM hg wM wr' wm' hm1 hm2
  go_enter Tryz.func40, Tryz.ntmps40
  go_wp2_with fail
  have s1 := size_of_alloc (w := w) rfl (.cells #[.int .i64 ra, .int .i64 mo, .int .i64 q] 90)
  have r1 := blk_new w #[.int .i64 ra, .int .i64 mo, .int .i64 q] 90 rfl
  have b1 : Below w.heap.size w (w.alloc (.cells #[.int .i64 ra, .int .i64 mo, .int .i64 q] 90)) := (Below.refl _ w).alloc (Nat.le_refl _) _
  generalize w.alloc (.cells #[.int .i64 ra, .int .i64 mo, .int .i64 q] 90) = W1 at s1 r1 b1 ⊢
  have s2 := size_of_alloc s1 (.cells #[.slice A n ca, .slice B n cb] 68)
  have r2 := blk_alloc r1 (.cells #[.slice A n ca, .slice B n cb] 68)
  have t2 := blk_new W1 #[.slice A n ca, .slice B n cb] 68 s1
  have b2 := b1.alloc (by omega) (.cells #[.slice A n ca, .slice B n cb] 68)
  generalize W1.alloc (.cells #[.slice A n ca, .slice B n cb] 68) = W2 at s2 r2 t2 b2 ⊢
  clear s1 r1 b1
  have s3 := size_of_alloc s2 (.cells #[.slice none 0 0, .slice none 0 0] 68)
  have r3 := blk_alloc r2 (.cells #[.slice none 0 0, .slice none 0 0] 68)
  have t3 := blk_alloc t2 (.cells #[.slice none 0 0, .slice none 0 0] 68)
  have u3 := blk_new W2 #[.slice none 0 0, .slice none 0 0] 68 s2
  have b3 := b2.alloc (by omega) (.cells #[.slice none 0 0, .slice none 0 0] 68)
  generalize W2.alloc (.cells #[.slice none 0 0, .slice none 0 0] 68) = W3 at s3 r3 t3 u3 b3 ⊢
  clear s2 r2 t2 b2
  have s4 := size_of_alloc s3 (.cells #[.slice none 0 0, .slice none 0 0] 68)
  have r4 := blk_alloc r3 (.cells #[.slice none 0 0, .slice none 0 0] 68)
  have t4 := blk_alloc t3 (.cells #[.slice none 0 0, .slice none 0 0] 68)
  have u4 := blk_alloc u3 (.cells #[.slice none 0 0, .slice none 0 0] 68)
  have v4 := blk_new W3 #[.slice none 0 0, .slice none 0 0] 68 s3
  have b4 := b3.alloc (by omega) (.cells #[.slice none 0 0, .slice none 0 0] 68)
  generalize W3.alloc (.cells #[.slice none 0 0, .slice none 0 0] 68) = W0 at s4 r4 t4 u4 v4 b4 ⊢
  clear s3 r3 t3 u3 b3
  have S4 := Lib.hid s4; have R4 := Lib.hid r4; have T4 := Lib.hid t4; have U4 := Lib.hid u4; have V4 := Lib.hid v4; have B4 := Lib.hid b4
  clear s4 r4 t4 u4 v4 b4
  go_loopw [9] (fun x wr => ∃ k : Nat, k ≤ n ∧ x = .int .i64 k ∧ NxtI ra mo q P M g (w.heap.size + 1 + 1 + 1) (w.heap.size + 4) k W0 wr) (fun x _ => n - (intOf x).toNat)
  case atStart => exact ⟨0, Nat.zero_le _, rfl, none, 0, none, 0, V4.out, World.ownsRow_nil _ _ _ _, World.ownsRow_nil _ _ _ _, fun i h => by simp [Value.ownBlock] at h, Keep.refl _ _⟩
  case round =>
    obtain ⟨k, hk, rfl, A1, c1, A2, c2, hv, ho1, ho2, hne, hK⟩ := hrel
    have hrs := hK.size
    rw [S4.out] at hrs
    by_cases hlt : k < n
    · have hlti := nx_lt hlt
      have hrr := (hK.block _ (by rw [S4.out]; omega) (by omega)).trans R4.out
      have hrt := (hK.block _ (by rw [S4.out]; omega) (by omega)).trans T4.out
      obtain ⟨ba, oa, rfl, pa⟩ := HA.out.num (show k < P.length by rw [HP.out]; exact hlt)
      obtain ⟨bm, om, rfl, pm⟩ := HB.out.num (show k < M.length by rw [HM.out]; exact hlt)
      obtain ⟨bg, og, rfl, pg⟩ := HG.out.num (show k < g.length by rw [Hg.out]; exact hlt)
      have la : ba < w.heap.size := lt_of_cell pa
      have lm : bm < w.heap.size := lt_of_cell pm
      have lg : bg < w.heap.size := lt_of_cell pg
      have pa := hK.cell (B4.out.cell (p := ⟨ba, oa + k, none⟩) la |>.trans pa) (by dsimp only; omega)
      have pm := hK.cell (B4.out.cell (p := ⟨bm, om + k, none⟩) lm |>.trans pm) (by dsimp only; omega)
      have pg := hK.cell (B4.out.cell (p := ⟨bg, og + k, none⟩) lg |>.trans pg) (by dsimp only; omega)
      have x0 := cell_of_row wr _ 0 _ _ _ hrr
      have x1 := cell_of_row wr _ 1 _ _ _ hrr
      have x2 := cell_of_row wr _ 2 _ _ _ hrr
      have xf := fun j => frozen_of_row wr _ j _ _ hrr
      have y0 := cell_of_row wr _ 0 _ _ _ hrt
      have y1 := cell_of_row wr _ 1 _ _ _ hrt
      have yf := fun j => frozen_of_row wr _ j _ _ hrt
      have HV := Lib.hid hv; have HO1 := Lib.hid ho1; have HO2 := Lib.hid ho2; have HNE := Lib.hid hne; have HK := Lib.hid hK; have HRS := Lib.hid hrs
      have HRR := Lib.hid hrr; have HRT := Lib.hid hrt; have HPA := Lib.hid pa
      clear hv ho1 ho2 hne hK hrr hrt hrs pa
      go_wp2_with fail
      have hSw : (fun w' : World => w'.cell? ⟨w.heap.size, 1, none⟩ = some (.int .i64 mo) ∧ w'.cell? ⟨w.heap.size, 2, none⟩ = some (.int .i64 q) ∧ w'.cell? ⟨w.heap.size + 1, 1, none⟩ = some (.slice (some ⟨bm, om, none⟩) n cb) ∧ w'.cell? ⟨bm, om + k, none⟩ = some (.int .i64 (nth M k)) ∧ w'.cell? ⟨bg, og + k, none⟩ = some (.int .i64 (nth g k))) wr.drew := ⟨x1, x2, y1, pm, pg⟩
      refine wp_region_held (S := (fun w' : World => w'.cell? ⟨w.heap.size, 1, none⟩ = some (.int .i64 mo) ∧ w'.cell? ⟨w.heap.size, 2, none⟩ = some (.int .i64 q) ∧ w'.cell? ⟨w.heap.size + 1, 1, none⟩ = some (.slice (some ⟨bm, om, none⟩) n cb) ∧ w'.cell? ⟨bm, om + k, none⟩ = some (.int .i64 (nth M k)) ∧ w'.cell? ⟨bg, og + k, none⟩ = some (.int .i64 (nth g k)))) (by kernel_rfl) ?_
      change wpAnyH _ _ _ _ _ _ _ _ wr.drew
      refine wpAnyH_take (i := 0) (v := ?_) rfl (by kernel_rfl) (by kernel_rfl) (by kernel_rfl) (fun _ _ _ h => h) (Or.inl ⟨by rfl, ?_⟩) hSw ?_
      rotate_left
      · intro w9 hS9; (try dsimp only at hS9); obtain ⟨s1, s2, s3, s4, s5⟩ := hS9; go_simp; (try with_reducible rfl)
      simp only [List.getElem_toArray, List.getElem_cons_succ, List.getElem_cons_zero, Act.put, List.setIfInBounds_toArray, List.set_cons_zero, List.set_cons_succ]
      refine wpAnyH_take (i := 1) (v := ?_) rfl (by kernel_rfl) (by kernel_rfl) (by kernel_rfl) (fun _ _ _ h => h) (Or.inl ⟨by rfl, ?_⟩) hSw ?_
      rotate_left
      · intro w9 hS9; (try dsimp only at hS9); obtain ⟨s1, s2, s3, s4, s5⟩ := hS9; go_simp; (try with_reducible rfl)
      simp only [List.getElem_toArray, List.getElem_cons_succ, List.getElem_cons_zero, Act.put, List.setIfInBounds_toArray, List.set_cons_zero, List.set_cons_succ]
      refine wpAnyH_take (i := 2) (v := ?_) rfl (by kernel_rfl) (by kernel_rfl) (by kernel_rfl) (fun _ _ _ h => h) (Or.inl ⟨by rfl, ?_⟩) hSw ?_
      rotate_left
      · intro w9 hS9; (try dsimp only at hS9); obtain ⟨s1, s2, s3, s4, s5⟩ := hS9; go_simp; (try with_reducible rfl)
      simp only [List.getElem_toArray, List.getElem_cons_succ, List.getElem_cons_zero, Act.put, List.setIfInBounds_toArray, List.set_cons_zero, List.set_cons_succ]
      refine wpAnyH_take (i := 3) (v := ?_) rfl (by kernel_rfl) (by kernel_rfl) (by kernel_rfl) (fun _ _ _ h => h) (Or.inl ⟨by rfl, ?_⟩) hSw ?_
      rotate_left
      · intro w9 hS9; (try dsimp only at hS9); obtain ⟨s1, s2, s3, s4, s5⟩ := hS9; go_simp; (try with_reducible rfl)
      simp only [List.getElem_toArray, List.getElem_cons_succ, List.getElem_cons_zero, Act.put, List.setIfInBounds_toArray, List.set_cons_zero, List.set_cons_succ]
      refine wpAnyH_take (i := 4) (v := ?_) rfl (by kernel_rfl) (by kernel_rfl) (by kernel_rfl) (fun _ _ _ h => h) (Or.inl ⟨by rfl, ?_⟩) hSw ?_
      rotate_left
      · intro w9 hS9; (try dsimp only at hS9); obtain ⟨s1, s2, s3, s4, s5⟩ := hS9; go_simp; (try with_reducible rfl)
      simp only [List.getElem_toArray, List.getElem_cons_succ, List.getElem_cons_zero, Act.put, List.setIfInBounds_toArray, List.set_cons_zero, List.set_cons_succ]
      refine wpAnyH_take (i := 5) (v := ?_) rfl (by kernel_rfl) (by kernel_rfl) (by kernel_rfl) (fun _ _ _ h => h) (Or.inl ⟨by rfl, ?_⟩) hSw ?_
      rotate_left
      · intro w9 hS9; (try dsimp only at hS9); obtain ⟨s1, s2, s3, s4, s5⟩ := hS9; go_simp; (try with_reducible rfl)
      simp only [List.getElem_toArray, List.getElem_cons_succ, List.getElem_cons_zero, Act.put, List.setIfInBounds_toArray, List.set_cons_zero, List.set_cons_succ]
      refine wpAnyH_take (i := 6) (v := ?_) rfl (by kernel_rfl) (by kernel_rfl) (by kernel_rfl) (fun _ _ _ h => h) (Or.inl ⟨by rfl, ?_⟩) hSw ?_
      rotate_left
      · intro w9 hS9; (try dsimp only at hS9); obtain ⟨s1, s2, s3, s4, s5⟩ := hS9; go_simp; (try with_reducible rfl)
      simp only [List.getElem_toArray, List.getElem_cons_succ, List.getElem_cons_zero, Act.put, List.setIfInBounds_toArray, List.set_cons_zero, List.set_cons_succ]
      refine wpAnyH_take (i := 7) (v := ?_) rfl (by kernel_rfl) (by kernel_rfl) (by kernel_rfl) (fun _ _ _ h => h) (Or.inl ⟨by rfl, ?_⟩) hSw ?_
      rotate_left
      · intro w9 hS9; (try dsimp only at hS9); obtain ⟨s1, s2, s3, s4, s5⟩ := hS9; go_simp; (try with_reducible rfl)
      simp only [List.getElem_toArray, List.getElem_cons_succ, List.getElem_cons_zero, Act.put, List.setIfInBounds_toArray, List.set_cons_zero, List.set_cons_succ]
      refine wpAnyH_take (i := 8) (v := ?_) rfl (by kernel_rfl) (by kernel_rfl) (by kernel_rfl) (fun _ _ _ h => h) (Or.inl ⟨by rfl, ?_⟩) hSw ?_
      rotate_left
      · intro w9 hS9; (try dsimp only at hS9); obtain ⟨s1, s2, s3, s4, s5⟩ := hS9; go_simp; (try with_reducible rfl)
      simp only [List.getElem_toArray, List.getElem_cons_succ, List.getElem_cons_zero, Act.put, List.setIfInBounds_toArray, List.set_cons_zero, List.set_cons_succ]
      refine wpAnyH_take (i := 10) (v := ?_) rfl (by kernel_rfl) (by kernel_rfl) (by kernel_rfl) (fun _ _ _ h => h) (Or.inl ⟨by rfl, ?_⟩) hSw ?_
      rotate_left
      · intro w9 hS9; (try dsimp only at hS9); obtain ⟨s1, s2, s3, s4, s5⟩ := hS9; go_simp; (try with_reducible rfl)
      simp only [List.getElem_toArray, List.getElem_cons_succ, List.getElem_cons_zero, Act.put, List.setIfInBounds_toArray, List.set_cons_zero, List.set_cons_succ]
      refine wpAnyH_take (i := 11) (v := ?_) rfl (by kernel_rfl) (by kernel_rfl) (by kernel_rfl) (fun _ _ _ h => h) (Or.inl ⟨by rfl, ?_⟩) hSw ?_
      rotate_left
      · intro w9 hS9; (try dsimp only at hS9); obtain ⟨s1, s2, s3, s4, s5⟩ := hS9; go_simp; (try with_reducible rfl)
      simp only [List.getElem_toArray, List.getElem_cons_succ, List.getElem_cons_zero, Act.put, List.setIfInBounds_toArray, List.set_cons_zero, List.set_cons_succ]
      refine wpAnyH_take (i := 12) (v := ?_) rfl (by kernel_rfl) (by kernel_rfl) (by kernel_rfl) (fun _ _ _ h => h) (Or.inl ⟨by rfl, ?_⟩) hSw ?_
      rotate_left
      · intro w9 hS9; (try dsimp only at hS9); obtain ⟨s1, s2, s3, s4, s5⟩ := hS9; go_simp; (try with_reducible rfl)
      simp only [List.getElem_toArray, List.getElem_cons_succ, List.getElem_cons_zero, Act.put, List.setIfInBounds_toArray, List.set_cons_zero, List.set_cons_succ]
      refine wpAnyH_take (i := 13) (v := ?_) rfl (by kernel_rfl) (by kernel_rfl) (by kernel_rfl) (fun _ _ _ h => h) (Or.inl ⟨by rfl, ?_⟩) hSw ?_
      rotate_left
      · intro w9 hS9; (try dsimp only at hS9); obtain ⟨s1, s2, s3, s4, s5⟩ := hS9; go_simp; (try with_reducible rfl)
      simp only [List.getElem_toArray, List.getElem_cons_succ, List.getElem_cons_zero, Act.put, List.setIfInBounds_toArray, List.set_cons_zero, List.set_cons_succ]
      refine wpAnyH_ready (rs := [9]) (by kernel_rfl) (by simp) ?_
      refine AllReadyH.cons rfl (fun K hK => ?_) AllReadyH.nil
      simp only [List.getElem_toArray, List.getElem_cons_succ, List.getElem_cons_zero]
      go_simp
      refine (Hm1.out k _).mono ?_
      rintro e w9 ⟨rfl, rfl⟩
      dsimp only
      refine hK.out _ _ hSw (fun hSw => ?_)
      clear hK K
      refine wpAnyH_take (i := 14) (v := ?_) rfl (by kernel_rfl) (by kernel_rfl) (by kernel_rfl) (fun _ _ _ h => h) (Or.inl ⟨by rfl, ?_⟩) hSw ?_
      rotate_left
      · intro w9 hS9; (try dsimp only at hS9); obtain ⟨s1, s2, s3, s4, s5⟩ := hS9; go_simp; (try with_reducible rfl)
      simp only [List.getElem_toArray, List.getElem_cons_succ, List.getElem_cons_zero, Act.put, List.setIfInBounds_toArray, List.set_cons_zero, List.set_cons_succ]
      refine wpAnyH_take (i := 15) (v := ?_) rfl (by kernel_rfl) (by kernel_rfl) (by kernel_rfl) (fun _ _ _ h => h) (Or.inl ⟨by rfl, ?_⟩) hSw ?_
      rotate_left
      · intro w9 hS9; (try dsimp only at hS9); obtain ⟨s1, s2, s3, s4, s5⟩ := hS9; go_simp; (try with_reducible rfl)
      simp only [List.getElem_toArray, List.getElem_cons_succ, List.getElem_cons_zero, Act.put, List.setIfInBounds_toArray, List.set_cons_zero, List.set_cons_succ]
      refine wpAnyH_done (by kernel_rfl) ?_ _
      clear hSw pm pg x0 x1 x2 xf y0 y1 yf
      have hmx : -9223372036854775808 ≤ stepM mo q (nth M k) (nth g k) ∧ stepM mo q (nth M k) (nth g k) ≤ 9223372036854775807 := wrap64_bd _
      have hmv : IntKind.i64.wrap (mulQ mo (nth M k) q + nth g k) = stepM mo q (nth M k) (nth g k) := by rw [IntKind.wrap_i64]; unfold stepM wrap64; rfl
      obtain ⟨mv, hmv2⟩ : ∃ mv, stepM mo q (nth M k) (nth g k) = mv := ⟨_, rfl⟩
      rw [hmv2] at hmx hmv
      rw [hmv]
      have hm2 := Hm2.out mv
      have Hmx := Lib.hid hmx; have Hmv2 := Lib.hid hmv2; have HM2 := Lib.hid hm2
      have hv := HV.out
      have z0 := cell_of_row wr _ 0 _ _ _ hv
      have z1 := cell_of_row wr _ 1 _ _ _ hv
      have zf := fun j => frozen_of_row wr _ j _ _ hv
      have hlv := lt_of_block hv
      clear hm2 hmx hmv2 hv hmv
      have hr7 := Nat.le_trans HRS.out (Nat.le_refl _)
      go_wp2_with (at_builtin; refine wpList_app et_ri64s _ rfl (.tmp 49) (.tmp 51) rfl (w.heap.size + 4) (.slice A2 k c2) k _ rfl (HO2.out.alloc _) (some ⟨wr.heap.size, 0, none⟩) 1 1 [.int .i64 mv] rfl (rd_newN wr _ _ _ rfl) rfl (by simp [Value.oneCell']) (by omega) (by unfold maxLen; omega) (by simp; omega) ?_)
      intro A7 c7 w7 ho7 hb7 hg7 hv7
      have ho7 : w7.ownsRow (w.heap.size + 4) 2 1 (.slice A7 (k + 1) c7) (k + 1) (nums .i64 (upTo (k + 1) fun j => stepM mo q (nth M j) (nth g j))) := by rw [upTo_succ, nums_append, Hmv2.out]; exact ho7
      have hb7' : Below (w.heap.size + 4) wr w7 := (((Below.refl _ wr).alloc (by omega) _).drew).trans hb7
      have hp7 : w7.ownsRow (w.heap.size + 4) 2 1 (.slice A1 k c1) k (nums .i64 (upTo k fun j => stepP ra q (nth P j) (stepM mo q (nth M j) (nth g j)))) := by
        refine (own_drewN (HO1.out.alloc (.cells #[.int .i64 mv] 2)) 1).kept hg7 ?_
        cases hu : (Value.slice A1 k c1).ownBlock with
        | none => exact .inl rfl
        | some i => exact .inr fun e => HNE.out i hu e.symm
      have hne7 : ∀ i, (Value.slice A1 k c1).ownBlock = some i → (Value.slice A7 (k + 1) c7).ownBlock ≠ some i := fun i hi e => by
        rcases hv7 with h | h
        · exact HNE.out i hi (h.symm.trans e)
        · have h1 := (HO1.out.lt i hi).2
          rw [h] at e; injection e with e; omega
      have hv7a := (hb7'.block _ (by omega)).trans HV.out
      have hr7' := (hb7'.block _ (by omega)).trans HRR.out
      have ht7 := (hb7'.block _ (by omega)).trans HRT.out
      have pa7 := (hb7'.cell (p := ⟨ba, oa + k, none⟩) (by dsimp only; omega)).trans HPA.out
      have hK7 := HK.out.below2 (hb7'.mono (by rw [S4.out]; omega))
      have hK8 := Keep.setCell (S := fun j => j = w.heap.size + 1 + 1 + 1) hK7 ⟨w.heap.size + 1 + 1 + 1, 1, none⟩ (.inr rfl) (.slice A7 (k + 1) c7)
      have hk8 : Keep (fun j => j = w.heap.size + 1 + 1 + 1) w7 (w7.setCell ⟨w.heap.size + 1 + 1 + 1, 1, none⟩ (.slice A7 (k + 1) c7)) := Keep.setCell (S := fun j => j = w.heap.size + 1 + 1 + 1) (Keep.refl _ _) _ (.inr rfl) _
      have hv8 := heap_setCell_same w7 (w.heap.size + 1 + 1 + 1) 1 _ _ (.slice A7 (k + 1) c7) hv7a
      have hr8 := (hk8.block _ (lt_of_block hr7') (by omega)).trans hr7'
      have ht8 := (hk8.block _ (lt_of_block ht7) (by omega)).trans ht7
      have pa8 := hk8.cell pa7 (by dsimp only; omega)
      have hp8 := hk8.own hp7 (fun j hj e => by have := (hp7.lt j hj).1; omega)
      have ho8 := hk8.own ho7 (fun j hj e => by have := (ho7.lt j hj).1; omega)
      have z0 := cell_of_row w7 _ 0 _ _ _ hv7a
      have z1 := cell_of_row w7 _ 1 _ _ _ hv7a
      have zf := fun j => frozen_of_row w7 _ j _ _ hv7a
      have hlv7 := lt_of_block hv7a
      have Hb7 := Lib.hid hb7'; have HNE7 := Lib.hid hne7; have HK8 := Lib.hid hK8; have HV8 := Lib.hid hv8; have HR8 := Lib.hid hr8; have HT8 := Lib.hid ht8; have HA8 := Lib.hid pa8; have HP8 := Lib.hid hp8; have HO8 := Lib.hid ho8
      clear hb7' hp7 hne7 hv7a hr7' ht7 pa7 hK7 hK8 hk8 hv8 hr8 ht8 pa8 hp8 ho8 ho7 hb7 hg7 hv7
      go_wp2_with fail
      have hv8 := HV8.out; have hr8 := HR8.out; have ht8 := HT8.out; have pa8 := HA8.out; have hp8 := HP8.out; have ho8 := HO8.out; have hK8 := HK8.out
      have hz8 : w7.heap.size = (w7.setCell ⟨w.heap.size + 1 + 1 + 1, 1, none⟩ (.slice A7 (k + 1) c7)).heap.size := by simp
      clear z0 z1 zf HV8 HR8 HT8 HA8 HP8 HO8 HK8
      have hzz := Nat.le_trans HRS.out Hb7.out.size
      rw [hz8] at hlv7 hzz
      generalize w7.setCell ⟨w.heap.size + 1 + 1 + 1, 1, none⟩ (.slice A7 (k + 1) c7) = w8 at hv8 hr8 ht8 pa8 hp8 ho8 hK8 hlv7 hzz ⊢
      clear hz8
      have hv8 : w8.heap[w.heap.size + 1 + 1 + 1]? = some (.cells #[.slice A1 k c1, .slice A7 (k + 1) c7] 68 (0, 0)) := by simpa using hv8
      have x0 := cell_of_row w8 _ 0 _ _ _ hr8
      have x1 := cell_of_row w8 _ 1 _ _ _ hr8
      have x2 := cell_of_row w8 _ 2 _ _ _ hr8
      have xf := fun j => frozen_of_row w8 _ j _ _ hr8
      have y0 := cell_of_row w8 _ 0 _ _ _ ht8
      have y1 := cell_of_row w8 _ 1 _ _ _ ht8
      have yf := fun j => frozen_of_row w8 _ j _ _ ht8
      have z0 := cell_of_row w8 _ 0 _ _ _ hv8
      have z1 := cell_of_row w8 _ 1 _ _ _ hv8
      have zf := fun j => frozen_of_row w8 _ j _ _ hv8
      have HV8 := Lib.hid hv8; have HP8 := Lib.hid hp8; have HO8 := Lib.hid ho8; have HK8 := Lib.hid hK8
      clear hv8 hr8 ht8 hp8 ho8 hK8
      have hSw : (fun w' : World => w'.cell? ⟨w.heap.size, 0, none⟩ = some (.int .i64 ra) ∧ w'.cell? ⟨w.heap.size, 2, none⟩ = some (.int .i64 q) ∧ w'.cell? ⟨w.heap.size + 1, 0, none⟩ = some (.slice (some ⟨ba, oa, none⟩) n ca) ∧ w'.cell? ⟨ba, oa + k, none⟩ = some (.int .i64 (nth P k)) ∧ w'.cell? ⟨w.heap.size + 1 + 1 + 1, 0, none⟩ = some (.slice A1 k c1)) w8.drew := ⟨x0, x2, y0, pa8, z0⟩
      refine wp_region_X 16 (fun w' : World => w'.cell? ⟨w.heap.size, 0, none⟩ = some (.int .i64 ra) ∧ w'.cell? ⟨w.heap.size, 2, none⟩ = some (.int .i64 q) ∧ w'.cell? ⟨w.heap.size + 1, 0, none⟩ = some (.slice (some ⟨ba, oa, none⟩) n ca) ∧ w'.cell? ⟨ba, oa + k, none⟩ = some (.int .i64 (nth P k)) ∧ w'.cell? ⟨w.heap.size + 1 + 1 + 1, 0, none⟩ = some (.slice A1 k c1)) (by kernel_rfl) ?_
      refine wpAnyX_take (i := 0) (v := ?_) rfl (by kernel_rfl) (by decide) (by kernel_rfl) (by kernel_rfl) (by kernel_rfl) (by kernel_rfl) (fun _ _ _ h => h) (Or.inl ⟨by rfl, ?_⟩) hSw ?_
      rotate_left
      · intro w9 hS9; (try dsimp only at hS9); obtain ⟨s1, s2, s3, s4, s5⟩ := hS9; go_simp; (try with_reducible rfl)
      simp only [List.getElem_toArray, List.getElem_cons_succ, List.getElem_cons_zero, Act.put, List.setIfInBounds_toArray, List.set_cons_zero, List.set_cons_succ]
      refine wpAnyX_take (i := 1) (v := ?_) rfl (by kernel_rfl) (by decide) (by kernel_rfl) (by kernel_rfl) (by kernel_rfl) (by kernel_rfl) (fun _ _ _ h => h) (Or.inl ⟨by rfl, ?_⟩) hSw ?_
      rotate_left
      · intro w9 hS9; (try dsimp only at hS9); obtain ⟨s1, s2, s3, s4, s5⟩ := hS9; go_simp; (try with_reducible rfl)
      simp only [List.getElem_toArray, List.getElem_cons_succ, List.getElem_cons_zero, Act.put, List.setIfInBounds_toArray, List.set_cons_zero, List.set_cons_succ]
      refine wpAnyX_take (i := 2) (v := ?_) rfl (by kernel_rfl) (by decide) (by kernel_rfl) (by kernel_rfl) (by kernel_rfl) (by kernel_rfl) (fun _ _ _ h => h) (Or.inl ⟨by rfl, ?_⟩) hSw ?_
      rotate_left
      · intro w9 hS9; (try dsimp only at hS9); obtain ⟨s1, s2, s3, s4, s5⟩ := hS9; go_simp; (try with_reducible rfl)
      simp only [List.getElem_toArray, List.getElem_cons_succ, List.getElem_cons_zero, Act.put, List.setIfInBounds_toArray, List.set_cons_zero, List.set_cons_succ]
      refine wpAnyX_take (i := 3) (v := ?_) rfl (by kernel_rfl) (by decide) (by kernel_rfl) (by kernel_rfl) (by kernel_rfl) (by kernel_rfl) (fun _ _ _ h => h) (Or.inl ⟨by rfl, ?_⟩) hSw ?_
      rotate_left
      · intro w9 hS9; (try dsimp only at hS9); obtain ⟨s1, s2, s3, s4, s5⟩ := hS9; go_simp; (try with_reducible rfl)
      simp only [List.getElem_toArray, List.getElem_cons_succ, List.getElem_cons_zero, Act.put, List.setIfInBounds_toArray, List.set_cons_zero, List.set_cons_succ]
      refine wpAnyX_take (i := 4) (v := ?_) rfl (by kernel_rfl) (by decide) (by kernel_rfl) (by kernel_rfl) (by kernel_rfl) (by kernel_rfl) (fun _ _ _ h => h) (Or.inl ⟨by rfl, ?_⟩) hSw ?_
      rotate_left
      · intro w9 hS9; (try dsimp only at hS9); obtain ⟨s1, s2, s3, s4, s5⟩ := hS9; go_simp; (try with_reducible rfl)
      simp only [List.getElem_toArray, List.getElem_cons_succ, List.getElem_cons_zero, Act.put, List.setIfInBounds_toArray, List.set_cons_zero, List.set_cons_succ]
      refine wpAnyX_take (i := 5) (v := ?_) rfl (by kernel_rfl) (by decide) (by kernel_rfl) (by kernel_rfl) (by kernel_rfl) (by kernel_rfl) (fun _ _ _ h => h) (Or.inl ⟨by rfl, ?_⟩) hSw ?_
      rotate_left
      · intro w9 hS9; (try dsimp only at hS9); obtain ⟨s1, s2, s3, s4, s5⟩ := hS9; go_simp; (try with_reducible rfl)
      simp only [List.getElem_toArray, List.getElem_cons_succ, List.getElem_cons_zero, Act.put, List.setIfInBounds_toArray, List.set_cons_zero, List.set_cons_succ]
      refine wpAnyX_take (i := 6) (v := ?_) rfl (by kernel_rfl) (by decide) (by kernel_rfl) (by kernel_rfl) (by kernel_rfl) (by kernel_rfl) (fun _ _ _ h => h) (Or.inl ⟨by rfl, ?_⟩) hSw ?_
      rotate_left
      · intro w9 hS9; (try dsimp only at hS9); obtain ⟨s1, s2, s3, s4, s5⟩ := hS9; go_simp; (try with_reducible rfl)
      simp only [List.getElem_toArray, List.getElem_cons_succ, List.getElem_cons_zero, Act.put, List.setIfInBounds_toArray, List.set_cons_zero, List.set_cons_succ]
      refine wpAnyX_take (i := 7) (v := ?_) rfl (by kernel_rfl) (by decide) (by kernel_rfl) (by kernel_rfl) (by kernel_rfl) (by kernel_rfl) (fun _ _ _ h => h) (Or.inl ⟨by rfl, ?_⟩) hSw ?_
      rotate_left
      · intro w9 hS9; (try dsimp only at hS9); obtain ⟨s1, s2, s3, s4, s5⟩ := hS9; go_simp; (try with_reducible rfl)
      simp only [List.getElem_toArray, List.getElem_cons_succ, List.getElem_cons_zero, Act.put, List.setIfInBounds_toArray, List.set_cons_zero, List.set_cons_succ]
      refine wpAnyX_take (i := 8) (v := ?_) rfl (by kernel_rfl) (by decide) (by kernel_rfl) (by kernel_rfl) (by kernel_rfl) (by kernel_rfl) (fun _ _ _ h => h) (Or.inl ⟨by rfl, ?_⟩) hSw ?_
      rotate_left
      · intro w9 hS9; (try dsimp only at hS9); obtain ⟨s1, s2, s3, s4, s5⟩ := hS9; go_simp; (try with_reducible rfl)
      simp only [List.getElem_toArray, List.getElem_cons_succ, List.getElem_cons_zero, Act.put, List.setIfInBounds_toArray, List.set_cons_zero, List.set_cons_succ]
      refine wpAnyX_take (i := 9) (v := ?_) rfl (by kernel_rfl) (by decide) (by kernel_rfl) (by kernel_rfl) (by kernel_rfl) (by kernel_rfl) (fun _ _ _ h => h) (Or.inl ⟨by rfl, ?_⟩) hSw ?_
      rotate_left
      · intro w9 hS9; (try dsimp only at hS9); obtain ⟨s1, s2, s3, s4, s5⟩ := hS9; go_simp; (try with_reducible rfl)
      simp only [List.getElem_toArray, List.getElem_cons_succ, List.getElem_cons_zero, Act.put, List.setIfInBounds_toArray, List.set_cons_zero, List.set_cons_succ]
      refine wpAnyX_take (i := 10) (v := ?_) rfl (by kernel_rfl) (by decide) (by kernel_rfl) (by kernel_rfl) (by kernel_rfl) (by kernel_rfl) (fun _ _ _ h => h) (Or.inl ⟨by rfl, ?_⟩) hSw ?_
      rotate_left
      · intro w9 hS9; (try dsimp only at hS9); obtain ⟨s1, s2, s3, s4, s5⟩ := hS9; go_simp; (try with_reducible rfl)
      simp only [List.getElem_toArray, List.getElem_cons_succ, List.getElem_cons_zero, Act.put, List.setIfInBounds_toArray, List.set_cons_zero, List.set_cons_succ]
      refine wpAnyX_take (i := 11) (v := ?_) rfl (by kernel_rfl) (by decide) (by kernel_rfl) (by kernel_rfl) (by kernel_rfl) (by kernel_rfl) (fun _ _ _ h => h) (Or.inl ⟨by rfl, ?_⟩) hSw ?_
      rotate_left
      · intro w9 hS9; (try dsimp only at hS9); obtain ⟨s1, s2, s3, s4, s5⟩ := hS9; go_simp; (try with_reducible rfl)
      simp only [List.getElem_toArray, List.getElem_cons_succ, List.getElem_cons_zero, Act.put, List.setIfInBounds_toArray, List.set_cons_zero, List.set_cons_succ]
      refine wpAnyX_ready (rs := [12]) (by kernel_rfl) (by simp) ?_
      refine AllReadyX.cons rfl (fun K hK => ?_) AllReadyX.nil
      simp only [List.getElem_toArray, List.getElem_cons_succ, List.getElem_cons_zero]
      go_simp
      refine (HM2.out w8.drew Hmx.out).mono ?_
      rintro e w9 ⟨rfl, rfl⟩
      dsimp only
      refine hK.out _ _ hSw (fun hSw => ?_)
      clear hK K
      refine wpAnyX_take (i := 13) (v := ?_) rfl (by kernel_rfl) (by decide) (by kernel_rfl) (by kernel_rfl) (by kernel_rfl) (by kernel_rfl) (fun _ _ _ h => h) (Or.inl ⟨by rfl, ?_⟩) hSw ?_
      rotate_left
      · intro w9 hS9; (try dsimp only at hS9); obtain ⟨s1, s2, s3, s4, s5⟩ := hS9; go_simp; (try with_reducible rfl)
      simp only [List.getElem_toArray, List.getElem_cons_succ, List.getElem_cons_zero, Act.put, List.setIfInBounds_toArray, List.set_cons_zero, List.set_cons_succ]
      refine wpAnyX_ready (rs := [14]) (by kernel_rfl) (by simp) ?_
      refine AllReadyX.cons rfl (fun K hK => ?_) AllReadyX.nil
      simp only [List.getElem_toArray, List.getElem_cons_succ, List.getElem_cons_zero]
      go_simp
      refine hK.out _ _ ⟨cell_alloc hSw.1 _, cell_alloc hSw.2.1 _, cell_alloc hSw.2.2.1 _, cell_alloc hSw.2.2.2.1 _, cell_alloc hSw.2.2.2.2 _⟩ (fun hSw => ?_)
      clear hK K
      refine wpAnyX_ready (rs := [15]) (by kernel_rfl) (by simp) ?_
      refine AllReadyX.cons rfl (fun K hK => ?_) AllReadyX.nil
      simp only [List.getElem_toArray, List.getElem_cons_succ, List.getElem_cons_zero]
      refine step_appX et_ri64s (.tmp 55) (.tmp 68) rfl rfl (w.heap.size + 4) (.slice A1 k c1) k _ rfl (own_drewN (HP8.out.alloc _) 1) (some ⟨w8.heap.size, 0, none⟩) 1 1 [.int .i64 (IntKind.i64.wrap (nth P k - mulQ ra mv q))] rfl (rd_newN w8 _ _ _ rfl) rfl (by simp [Value.oneCell']) (by omega) (by unfold maxLen; omega) (by simp; omega) ?_
      intro A9 c9 w9 ho9 hb9 hg9 hv9
      have hb9' : Below (w.heap.size + 4) w8 w9 := (((Below.refl _ w8).alloc (by omega) _).drew).trans hb9
      have hS9 := And.intro ((hb9.cell (p := ⟨w.heap.size, 0, none⟩) (by dsimp only; omega)).trans hSw.1) (And.intro ((hb9.cell (p := ⟨w.heap.size, 2, none⟩) (by dsimp only; omega)).trans hSw.2.1) (And.intro ((hb9.cell (p := ⟨w.heap.size + 1, 0, none⟩) (by dsimp only; omega)).trans hSw.2.2.1) (And.intro ((hb9.cell (p := ⟨ba, oa + k, none⟩) (by dsimp only; omega)).trans hSw.2.2.2.1) ((hb9.cell (p := ⟨w.heap.size + 1 + 1 + 1, 0, none⟩) (by dsimp only; omega)).trans hSw.2.2.2.2))))
      have hsp : IntKind.i64.wrap (nth P k - mulQ ra mv q) = stepP ra q (nth P k) (stepM mo q (nth M k) (nth g k)) := by rw [IntKind.wrap_i64, Hmv2.out]; unfold stepP wrap64; rfl
      have ho9 : w9.ownsRow (w.heap.size + 4) 2 1 (.slice A9 (k + 1) c9) (k + 1) (nums .i64 (upTo (k + 1) fun j => stepP ra q (nth P j) (stepM mo q (nth M j) (nth g j)))) := by rw [upTo_succ, nums_append, ← hsp]; exact ho9
      have hm9 : w9.ownsRow (w.heap.size + 4) 2 1 (.slice A7 (k + 1) c7) (k + 1) (nums .i64 (upTo (k + 1) fun j => stepM mo q (nth M j) (nth g j))) := by
        refine (own_drewN (HO8.out.alloc (.cells #[.int .i64 (IntKind.i64.wrap (nth P k - mulQ ra mv q))] 2)) 1).kept hg9 ?_
        cases hu : (Value.slice A7 (k + 1) c7).ownBlock with
        | none => exact .inl rfl
        | some i => exact .inr fun e => HNE7.out i e.symm hu
      have hne9 : ∀ i, (Value.slice A9 (k + 1) c9).ownBlock = some i → (Value.slice A7 (k + 1) c7).ownBlock ≠ some i := fun i hi e => by
        rcases hv9 with h | h
        · exact HNE7.out i (h.symm.trans hi) e
        · have h1 := (HO8.out.lt i e).2
          rw [h] at hi; injection hi with hi; simp at hi; omega
      have hx9 := (hb9'.block _ (by omega)).trans HV8.out
      have hK9 := HK8.out.below2 (hb9'.mono (by rw [S4.out]; omega))
      have hx10 := heap_setCell_same w9 (w.heap.size + 1 + 1 + 1) 0 _ _ (.slice A9 (k + 1) c9) hx9
      have hk10 : Keep (fun j => j = w.heap.size + 1 + 1 + 1) w9 (w9.setCell ⟨w.heap.size + 1 + 1 + 1, 0, none⟩ (.slice A9 (k + 1) c9)) := Keep.setCell (S := fun j => j = w.heap.size + 1 + 1 + 1) (Keep.refl _ _) _ (.inr rfl) _
      have hI : NxtI ra mo q P M g (w.heap.size + 1 + 1 + 1) (w.heap.size + 4) (k + 1) W0 (w9.setCell ⟨w.heap.size + 1 + 1 + 1, 0, none⟩ (.slice A9 (k + 1) c9)) :=
        ⟨A9, c9, A7, c7, by simpa using hx10, hk10.own ho9 (fun j hj e => by have := (ho9.lt j hj).1; omega), hk10.own hm9 (fun j hj e => by have := (hm9.lt j hj).1; omega), hne9, hK9.trans hk10⟩
      have HI := Lib.hid hI
      clear x0 x1 x2 xf y0 y1 yf z0 z1 zf
      have z0 := cell_of_row w9 _ 0 _ _ _ hx9
      have z1 := cell_of_row w9 _ 1 _ _ _ hx9
      have zf := fun j => frozen_of_row w9 _ j _ _ hx9
      have hl9 := lt_of_block hx9
      clear ho9 hb9 hg9 hv9 hb9' hsp hm9 hne9 hx9 hK9 hx10 hk10 hI hSw
      dsimp only
      refine hK.out _ _ hS9 (fun hSw => ?_)
      clear hK K hS9 hSw
      refine wpAnyX_tail (by rfl) (by kernel_rfl) ?_
      simp only [List.drop_succ_cons, List.drop_zero]
      go_wp2_with fail
      go_roundw
      case rel => exact ⟨k + 1, hlt, by go_num, HI.out⟩
      case measure => exact nx_m hlt
    · obtain rfl : n = k := by omega
      have hz6 := (hK.block _ (by rw [S4.out]; omega) (by omega)).trans U4.out
      have hBw : Below w.heap.size w wr := B4.out.trans (hK.toBelow (by rw [S4.out]; omega) (fun j hj => by omega))
      obtain ⟨e2, k2⟩ := store2 wr (w.heap.size + 1 + 1) (.slice A1 n c1) (.slice A2 n c2) hz6
      have h1 := own_base (base' := w.heap.size) (k2.own ho1 (fun j hj e => by have := (ho1.lt j hj).1; omega)) (by omega)
      have h2 := own_base (base' := w.heap.size) (k2.own ho2 (fun j hj e => by have := (ho2.lt j hj).1; omega)) (by omega)
      have h3 := hBw.trans (k2.toBelow hBw.size (fun j hj => by omega))
      have y0 := cell_of_row wr _ 0 _ _ _ hv
      have y1 := cell_of_row wr _ 1 _ _ _ hv
      have yf := fun j => frozen_of_row wr _ j _ _ hv
      have z0 := cell_of_row wr _ 0 _ _ _ hz6
      have z1 := cell_of_row wr _ 1 _ _ _ hz6
      have zf := fun j => frozen_of_row wr _ j _ _ hz6
      have E2 := Lib.hid e2; have F1 := Lib.hid h1; have F2 := Lib.hid h2; have F3 := Lib.hid h3
      have hlv := lt_of_block hv
      have hlz := lt_of_block hz6
      clear e2 k2 h1 h2 h3 ho1 ho2 hK hv hz6 hBw hne
      go_wp2_with fail
      have e3 := E2.out; have h1 := F1.out; have h2 := F2.out; have h3 := F3.out
      generalize (wr.setCell ⟨w.heap.size + 1 + 1, 0, none⟩ (.slice A1 n c1)).setCell ⟨w.heap.size + 1 + 1, 1, none⟩ (.slice A2 n c2) = W9 at e3 h1 h2 h3 ⊢
      clear y0 y1 yf z0 z1 zf
      have r0 := cell_of_row W9 _ 0 _ _ _ e3
      have r1 := cell_of_row W9 _ 1 _ _ _ e3
      have rf := fun j => frozen_of_row W9 _ j _ _ e3
      exact bodyPost_ret (v := .tuple #[.agg #[.slice A1 n c1, .slice A2 n c2], .bool true]) (by simp [results, Tryz.results40, go_sem, r0, r1]) rfl ⟨_, _, _, _, rfl, by unfold nextP; rw [HP.out]; exact h1, by unfold nextM; rw [HM.out]; exact h2, h3⟩
end Go.Proofs.YtfiojofcafjfeaaGreat
