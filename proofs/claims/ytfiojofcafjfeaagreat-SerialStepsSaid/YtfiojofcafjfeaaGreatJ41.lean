/- Run.Step. No condition. -/
import Derived.Test.YtfiojofcafjfeaaGreatJ33
set_option linter.unusedSimpArgs false
set_option linter.unusedVariables false
namespace Go.Proofs.YtfiojofcafjfeaaGreat
open Go.RowKit

/-- The gradient of a step. -/
def stepG (i : Inp) (P : List Int) (k : Nat) : List Int := gradAcc i P (pickL i.data (batchN i.draws i.data.length i.cfg.batch.toNat k))
/-- The states of a run. -/
def traj (i : Inp) : Nat → Ex
  | 0 => (i.start, List.replicate (cnt i) 0)
  | k + 1 => (nextP i.cfg.rate i.cfg.mom i.cfg.shift (traj i k).1 (traj i k).2 (stepG i (traj i k).1 k), nextM i.cfg.mom i.cfg.shift (traj i k).2 (stepG i (traj i k).1 k))
theorem batch_good {i : Inp} (hg : GoodIn i) (k : Nat) : allGood i (batchN i.draws i.data.length i.cfg.batch.toNat k) := fun j hj => by
  have h1 := hg.c.w; have h2 := hg.c.ba; have h3 := hg.b
  have hnb : 1 ≤ i.data.length / i.cfg.batch.toNat := Nat.div_pos (by omega) (by omega)
  rw [batchN_len _ hnb] at hj
  exact batchN_bd _ hnb j hj

set_option maxRecDepth 100000 in
theorem step_end (b k : Nat) (i : Inp) (P M : List Int) (w : World) (h : RunAt w b i P M k) (hk : i.cfg.steps.toNat ≤ k) :
    Calls Tryz.prog 30 #[.pointer (some ⟨b, 0, none⟩)] w fun e w' => e = .returned (.bool false) ∧ ∃ d, w' = w.drewN d := by
  obtain ⟨V, F, E, ce, S, Ap, cp, Am, cm, h0, h1, h2, h3, h4, h5, h6⟩ := h
  have hss := fun w' (q : Below w.heap.size w w') => ssteps_any S i.data.length i.cfg.batch.toNat i.cfg.steps.toNat i.draws w' (h3.below (h5.trans (q.mono h5.size)))
  obtain ⟨sn, hsn⟩ : ∃ sn, i.cfg.steps.toNat = sn := ⟨_, rfl⟩
  rw [hsn] at hss hk
  have r0 := cell_of_row w _ 0 _ _ _ h0
  have r1 := cell_of_row w _ 1 _ _ _ h0
  have r2 := cell_of_row w _ 2 _ _ _ h0
  have r3 := cell_of_row w _ 3 _ _ _ h0
  have r4 := cell_of_row w _ 4 _ _ _ h0
  have r5 := cell_of_row w _ 5 _ _ _ h0
  have r6 := cell_of_row w _ 6 _ _ _ h0
  have r7 := cell_of_row w _ 7 _ _ _ h0
  have r8 := cell_of_row w _ 8 _ _ _ h0
  have rf := fun j => frozen_of_row w _ j _ _ h0
  have hk1 : (sn : Int) ≤ k := by omega
  have Hss := Lib.hid hss
  clear h0 h1 h2 h3 h4 h5 h6 hss hsn
  go_enter Tryz.func30, Tryz.ntmps30
  go_wp2_with fail
  go_quiet ((go_at_call 58; refine Calls.quiet_of ((Hss.out _ ?_).mono fun e w' ⟨he, hw⟩ => ⟨he, 0, hw.symm⟩); (focus (repeat' (first | (with_reducible exact Below.refl _ _) | (with_reducible assumption) | (with_reducible refine Below.setCell ?_ ?_ _) | (with_reducible refine Below.alloc ?_ ?_ _) | (with_reducible refine below_drewN ?_ _) | (with_reducible refine Below.drew ?_) | (with_reducible exact Nat.le_refl _) | omega | (simp; done) | (simp; omega))))))
  go_wp2_with fail
  go_ret
  exact ⟨rfl, _, rfl⟩
theorem step_nil (w : World) : Calls Tryz.prog 30 #[.pointer none] w fun e w' => e = .returned (.bool false) ∧ ∃ d, w' = w.drewN d := by
  go_enter Tryz.func30, Tryz.ntmps30
  go_wp2_with fail
  go_quiet (fail)
  go_wp2_with fail
  go_ret
  exact ⟨rfl, _, rfl⟩

set_option maxRecDepth 100000 in
set_option maxHeartbeats 4000000 in
theorem step_any (b k : Nat) (i : Inp) (P M : List Int) (w : World) (h : RunAt w b i P M k) (hg : GoodIn i) (hk : k < i.cfg.steps.toNat) (hrr : -9223372036854775808 ≤ i.cfg.rate ∧ i.cfg.rate ≤ 9223372036854775807) (hrm : -9223372036854775808 ≤ i.cfg.mom ∧ i.cfg.mom ≤ 9223372036854775807) :
    Calls Tryz.prog 30 #[.pointer (some ⟨b, 0, none⟩)] w fun e w' => e = .returned (.bool true) ∧ RunAt w' b i (nextP i.cfg.rate i.cfg.mom i.cfg.shift P M (stepG i P k)) (nextM i.cfg.mom i.cfg.shift M (stepG i P k)) (k + 1) ∧ Keep (fun j => j = b) w w' := by
  have hgr := fun d B w' (q : Below w.heap.size w w') (hw : W64 P) (hB : Rd w' B (nums .i64 (batchN i.draws i.data.length i.cfg.batch.toNat k))) hl => rgradient_any b k d B i P M (batchN i.draws i.data.length i.cfg.batch.toNat k) w' (h.below q) hg hw hB hl
  have hbg := batch_good hg k
  have hcb : cnt i ≤ 1048576 := hg.c.z.bound (k := i.cfg.sizes.length - 1) (by have := hg.c.z.1.1; omega)
  have hcp := cnt_pos hg.c.z
  obtain ⟨V, F, E, ce, S, Ap, cp, Am, cm, h0, h1, h2, h3, h4, h5, h6, h7, h8, h9, wP, wM, hn1, hn2⟩ := h
  have g1 := hg.c.w; have g2 := hg.c.ba; have g3 := hg.b; have g4 := hg.c.st
  have hnb : 1 ≤ i.data.length / i.cfg.batch.toNat := Nat.div_pos (by omega) (by omega)
  have hbl := batchN_len i.draws (t := k) hnb
  have hss := fun w' (q : Below w.heap.size w w') => ssteps_any S i.data.length i.cfg.batch.toNat i.cfg.steps.toNat i.draws w' (h3.below (h5.trans (q.mono h5.size)))
  have hba := fun w' (q : Below w.heap.size w w') => sbatch_any S i.data.length i.cfg.batch.toNat i.cfg.steps.toNat k i.draws w' (h3.below (h5.trans (q.mono h5.size))) (by omega) (by omega) g3.2 (by omega) hk
  have hgl := gradAcc_len i P (pickL i.data (batchN i.draws i.data.length i.cfg.batch.toNat k))
  have hnx := fun (G : Option Addr) cg w' (q : Below w.heap.size w w') (hG : Rd w' G (nums .i64 (gradAcc i P (pickL i.data (batchN i.draws i.data.length i.cfg.batch.toNat k))))) hGb => next_ok i.cfg.rate i.cfg.mom i.cfg.shift Ap Am G (cnt i) cp cm cg P M _ w' (h6.below q) (h7.below q) hG h8 h9 hgl hcb hrr hrm wM hGb
  have hgr := fun d B w' q hB hl => hgr d B w' q wP hB hl
  unfold RGradIs at hgr
  have hfin : ∀ (w' : World) (A1 A2 : Option Addr) (c1 c2 : Nat), w'.heap[b]? = some (.cells #[.pointer (some ⟨F, 0, none⟩), .slice E i.data.length ce, .pointer (some ⟨S, 0, none⟩), .int .i64 i.cfg.rate, .int .i64 i.cfg.mom, .int .i64 i.cfg.shift, .slice A1 (cnt i) c1, .slice A2 (cnt i) c2, .int .i64 ((k : Int) + 1)] 109 (0, 0)) →
      Keep (fun j => j = b) w w' → Rd w' A1 (nums .i64 (nextP i.cfg.rate i.cfg.mom i.cfg.shift P M (stepG i P k))) → Rd w' A2 (nums .i64 (nextM i.cfg.mom i.cfg.shift M (stepG i P k))) → (∀ a, A1 = some a → a.block ≠ b) → (∀ a, A2 = some a → a.block ≠ b) → w'.ownsRow 0 2 1 (.slice A1 (cnt i) c1) (cnt i) (nums .i64 (nextP i.cfg.rate i.cfg.mom i.cfg.shift P M (stepG i P k))) → w'.ownsRow 0 2 1 (.slice A2 (cnt i) c2) (cnt i) (nums .i64 (nextM i.cfg.mom i.cfg.shift M (stepG i P k))) →
      RunAt w' b i (nextP i.cfg.rate i.cfg.mom i.cfg.shift P M (stepG i P k)) (nextM i.cfg.mom i.cfg.shift M (stepG i P k)) (k + 1) := fun w' A1 A2 c1 c2 e0 e1 e2 e3 e4 e5 e6 e7 =>
    ⟨V, F, E, ce, S, A1, c1, A2, c2, by rw [Int.natCast_add]; exact e0, h1, h2, h3, h4, h5.trans (e1.toBelow h5.size (fun j hj => by omega)), e2, e3, by rw [nextP_len]; exact h8, by rw [nextM_len]; exact h9, nextP_W64 _ _ _ _ _ _, nextM_W64 _ _ _ _, e4, e5, e6, e7⟩
  obtain ⟨P', hP'⟩ : ∃ P', nextP i.cfg.rate i.cfg.mom i.cfg.shift P M (stepG i P k) = P' := ⟨_, rfl⟩
  obtain ⟨M', hM'⟩ : ∃ M', nextM i.cfg.mom i.cfg.shift M (stepG i P k) = M' := ⟨_, rfl⟩
  have eP : nextP i.cfg.rate i.cfg.mom i.cfg.shift P M (gradAcc i P (pickL i.data (batchN i.draws i.data.length i.cfg.batch.toNat k))) = P' := hP'
  have eM : nextM i.cfg.mom i.cfg.shift M (gradAcc i P (pickL i.data (batchN i.draws i.data.length i.cfg.batch.toNat k))) = M' := hM'
  rw [hP', hM'] at hfin ⊢
  rw [eP, eM] at hnx
  obtain ⟨gv, hgv⟩ : ∃ gv, gradAcc i P (pickL i.data (batchN i.draws i.data.length i.cfg.batch.toNat k)) = gv := ⟨_, rfl⟩
  rw [hgv] at hgr hnx
  rw [hbl] at hgr
  obtain ⟨bl, hbl'⟩ : ∃ bl, batchN i.draws i.data.length i.cfg.batch.toNat k = bl := ⟨_, rfl⟩
  rw [hbl'] at hgr hba hbg
  obtain ⟨sn, hsn⟩ : ∃ sn, i.cfg.steps.toNat = sn := ⟨_, rfl⟩
  obtain ⟨bt, hbt⟩ : ∃ bt, i.cfg.batch.toNat = bt := ⟨_, rfl⟩
  obtain ⟨n, hn⟩ : ∃ n, cnt i = n := ⟨_, rfl⟩
  obtain ⟨N, hN⟩ : ∃ N, i.data.length = N := ⟨_, rfl⟩
  obtain ⟨ra, hra⟩ : ∃ ra, i.cfg.rate = ra := ⟨_, rfl⟩
  obtain ⟨mo, hmo⟩ : ∃ mo, i.cfg.mom = mo := ⟨_, rfl⟩
  obtain ⟨q, hq⟩ : ∃ q, i.cfg.shift = q := ⟨_, rfl⟩
  have hbt2 : bt ≤ 1048576 := by omega
  have hkb : k + 1 ≤ 1048576 := by omega
  rw [hsn] at hss hk
  rw [hbt] at hgr hba
  rw [hn] at hgr hnx h0 hfin
  rw [hN] at h0 hfin
  rw [hra, hmo, hq] at h0 hnx hfin
  have r0 := cell_of_row w _ 0 _ _ _ h0
  have r1 := cell_of_row w _ 1 _ _ _ h0
  have r2 := cell_of_row w _ 2 _ _ _ h0
  have r3 := cell_of_row w _ 3 _ _ _ h0
  have r4 := cell_of_row w _ 4 _ _ _ h0
  have r5 := cell_of_row w _ 5 _ _ _ h0
  have r6 := cell_of_row w _ 6 _ _ _ h0
  have r7 := cell_of_row w _ 7 _ _ _ h0
  have r8 := cell_of_row w _ 8 _ _ _ h0
  have rf := fun j => frozen_of_row w _ j _ _ h0
  have hbw := lt_of_block h0
  have hk1 : ¬ ((sn : Int) ≤ k) := by omega
  have Hss := Lib.hid hss; have Hba := Lib.hid hba; have Hgr := Lib.hid hgr; have Hnx := Lib.hid hnx; have Hfin := Lib.hid hfin; have Hbg := Lib.hid hbg; have H0 := Lib.hid h0
  clear hss hba hgr hnx hfin hbg h0 h1 h2 h3 h4 h5 h6 h7 h8 h9 wP wM hn1 hn2 g1 g2 g3 g4 hnb hbl hgl hP' hM' eP eM hgv hbl' hsn hbt hn hN hra hmo hq hg hcb hcp hrr hrm
  go_enter Tryz.func30, Tryz.ntmps30
  go_wp2_with fail
  go_quiet ((go_at_call 58; refine Calls.quiet_of ((Hss.out _ ?_).mono fun e w' ⟨he, hw⟩ => ⟨he, 0, hw.symm⟩); (focus (repeat' (first | (with_reducible exact Below.refl _ _) | (with_reducible assumption) | (with_reducible refine Below.setCell ?_ ?_ _) | (with_reducible refine Below.alloc ?_ ?_ _) | (with_reducible refine below_drewN ?_ _) | (with_reducible refine Below.drew ?_) | (with_reducible exact Nat.le_refl _) | omega | (simp; done) | (simp; omega))))))
  go_wp2_with fail
  obtain ⟨W1, hW1⟩ : ∃ W1, W1 = w.drewN nq := ⟨_, rfl⟩
  have hb1 : Below w.heap.size w W1 := by rw [hW1]; exact below_drewN (Below.refl _ _) _
  have hx1 : W1.heap[b]? = some (.cells #[.pointer (some ⟨F, 0, none⟩), .slice E N ce, .pointer (some ⟨S, 0, none⟩), .int .i64 ra, .int .i64 mo, .int .i64 q, .slice Ap n cp, .slice Am n cm, .int .i64 k] 109 (0, 0)) := by rw [hW1]; exact H0.out
  rw [← hW1]
  clear hW1 r0 r1 r2 r3 r4 r5 r6 r7 r8 rf
  have r0 := cell_of_row W1 _ 0 _ _ _ hx1
  have r1 := cell_of_row W1 _ 1 _ _ _ hx1
  have r2 := cell_of_row W1 _ 2 _ _ _ hx1
  have r3 := cell_of_row W1 _ 3 _ _ _ hx1
  have r4 := cell_of_row W1 _ 4 _ _ _ hx1
  have r5 := cell_of_row W1 _ 5 _ _ _ hx1
  have r6 := cell_of_row W1 _ 6 _ _ _ hx1
  have r7 := cell_of_row W1 _ 7 _ _ _ hx1
  have r8 := cell_of_row W1 _ 8 _ _ _ hx1
  have rf := fun j => frozen_of_row W1 _ j _ _ hx1
  have Hb1 := Lib.hid hb1; have HX1 := Lib.hid hx1; clear hb1 hx1
  have hSw : (fun w' : World => w'.cell? ⟨b, 2, none⟩ = some (.pointer (some ⟨S, 0, none⟩)) ∧ w'.cell? ⟨b, 8, none⟩ = some (.int .i64 k)) W1.drew := ⟨r2, r8⟩
  refine wp_region_held (S := (fun w' : World => w'.cell? ⟨b, 2, none⟩ = some (.pointer (some ⟨S, 0, none⟩)) ∧ w'.cell? ⟨b, 8, none⟩ = some (.int .i64 k))) (by kernel_rfl) ?_
  change wpAnyH _ _ _ _ _ _ _ _ W1.drew
  refine wpAnyH_take (i := 0) (v := ?_) rfl (by kernel_rfl) (by kernel_rfl) (by kernel_rfl) (fun _ _ _ h => h) (Or.inl ⟨by rfl, ?_⟩) hSw ?_
  rotate_left
  · intro w9 hS9; (try dsimp only at hS9); obtain ⟨s1, s2⟩ := hS9; go_simp; (try with_reducible rfl)
  simp only [List.getElem_toArray, List.getElem_cons_succ, List.getElem_cons_zero, Act.put, List.setIfInBounds_toArray, List.set_cons_zero, List.set_cons_succ]
  refine wpAnyH_take (i := 1) (v := ?_) rfl (by kernel_rfl) (by kernel_rfl) (by kernel_rfl) (fun _ _ _ h => h) (Or.inl ⟨by rfl, ?_⟩) hSw ?_
  rotate_left
  · intro w9 hS9; (try dsimp only at hS9); obtain ⟨s1, s2⟩ := hS9; go_simp; (try with_reducible rfl)
  simp only [List.getElem_toArray, List.getElem_cons_succ, List.getElem_cons_zero, Act.put, List.setIfInBounds_toArray, List.set_cons_zero, List.set_cons_succ]
  refine wpAnyH_take (i := 2) (v := ?_) rfl (by kernel_rfl) (by kernel_rfl) (by kernel_rfl) (fun _ _ _ h => h) (Or.inl ⟨by rfl, ?_⟩) hSw ?_
  rotate_left
  · intro w9 hS9; (try dsimp only at hS9); obtain ⟨s1, s2⟩ := hS9; go_simp; (try with_reducible rfl)
  simp only [List.getElem_toArray, List.getElem_cons_succ, List.getElem_cons_zero, Act.put, List.setIfInBounds_toArray, List.set_cons_zero, List.set_cons_succ]
  refine wpAnyH_take (i := 3) (v := ?_) rfl (by kernel_rfl) (by kernel_rfl) (by kernel_rfl) (fun _ _ _ h => h) (Or.inl ⟨by rfl, ?_⟩) hSw ?_
  rotate_left
  · intro w9 hS9; (try dsimp only at hS9); obtain ⟨s1, s2⟩ := hS9; go_simp; (try with_reducible rfl)
  simp only [List.getElem_toArray, List.getElem_cons_succ, List.getElem_cons_zero, Act.put, List.setIfInBounds_toArray, List.set_cons_zero, List.set_cons_succ]
  refine wpAnyH_take (i := 4) (v := ?_) rfl (by kernel_rfl) (by kernel_rfl) (by kernel_rfl) (fun _ _ _ h => h) (Or.inl ⟨by rfl, ?_⟩) hSw ?_
  rotate_left
  · intro w9 hS9; (try dsimp only at hS9); obtain ⟨s1, s2⟩ := hS9; go_simp; (try with_reducible rfl)
  simp only [List.getElem_toArray, List.getElem_cons_succ, List.getElem_cons_zero, Act.put, List.setIfInBounds_toArray, List.set_cons_zero, List.set_cons_succ]
  refine wpAnyH_take (i := 5) (v := ?_) rfl (by kernel_rfl) (by kernel_rfl) (by kernel_rfl) (fun _ _ _ h => h) (Or.inl ⟨by rfl, ?_⟩) hSw ?_
  rotate_left
  · intro w9 hS9; (try dsimp only at hS9); obtain ⟨s1, s2⟩ := hS9; go_simp; (try with_reducible rfl)
  simp only [List.getElem_toArray, List.getElem_cons_succ, List.getElem_cons_zero, Act.put, List.setIfInBounds_toArray, List.set_cons_zero, List.set_cons_succ]
  refine wpAnyH_take (i := 6) (v := ?_) rfl (by kernel_rfl) (by kernel_rfl) (by kernel_rfl) (fun _ _ _ h => h) (Or.inl ⟨by rfl, ?_⟩) hSw ?_
  rotate_left
  · intro w9 hS9; (try dsimp only at hS9); obtain ⟨s1, s2⟩ := hS9; go_simp; (try with_reducible rfl)
  simp only [List.getElem_toArray, List.getElem_cons_succ, List.getElem_cons_zero, Act.put, List.setIfInBounds_toArray, List.set_cons_zero, List.set_cons_succ]
  refine wpAnyH_take (i := 7) (v := ?_) rfl (by kernel_rfl) (by kernel_rfl) (by kernel_rfl) (fun _ _ _ h => h) (Or.inl ⟨by rfl, ?_⟩) hSw ?_
  rotate_left
  · intro w9 hS9; (try dsimp only at hS9); obtain ⟨s1, s2⟩ := hS9; go_simp; (try with_reducible rfl)
  simp only [List.getElem_toArray, List.getElem_cons_succ, List.getElem_cons_zero, Act.put, List.setIfInBounds_toArray, List.set_cons_zero, List.set_cons_succ]
  refine wpAnyH_take (i := 8) (v := ?_) rfl (by kernel_rfl) (by kernel_rfl) (by kernel_rfl) (fun _ _ _ h => h) (Or.inl ⟨by rfl, ?_⟩) hSw ?_
  rotate_left
  · intro w9 hS9; (try dsimp only at hS9); obtain ⟨s1, s2⟩ := hS9; go_simp; (try with_reducible rfl)
  simp only [List.getElem_toArray, List.getElem_cons_succ, List.getElem_cons_zero, Act.put, List.setIfInBounds_toArray, List.set_cons_zero, List.set_cons_succ]
  refine wpAnyH_take (i := 9) (v := ?_) rfl (by kernel_rfl) (by kernel_rfl) (by kernel_rfl) (fun _ _ _ h => h) (Or.inl ⟨by rfl, ?_⟩) hSw ?_
  rotate_left
  · intro w9 hS9; (try dsimp only at hS9); obtain ⟨s1, s2⟩ := hS9; go_simp; (try with_reducible rfl)
  simp only [List.getElem_toArray, List.getElem_cons_succ, List.getElem_cons_zero, Act.put, List.setIfInBounds_toArray, List.set_cons_zero, List.set_cons_succ]
  refine wpAnyH_ready (rs := [10]) (by kernel_rfl) (by simp) ?_
  refine AllReadyH.cons rfl (fun K hK => ?_) AllReadyH.nil
  simp only [List.getElem_toArray, List.getElem_cons_succ, List.getElem_cons_zero]
  go_simp
  refine (Hba.out _ Hb1.out.drew).mono ?_
  rintro e w2 ⟨Bb, cb, rfl, hcb2, hrB, hb2⟩
  have hS2 := And.intro (cell_below hb2 hSw.1) (cell_below hb2 hSw.2)
  have hb2' := Hb1.out.drew.trans (hb2.mono Hb1.out.size)
  have hgr2 := Hgr.out cb Bb w2 hb2' hrB (by omega)
  have Hb2 := Lib.hid hb2'; have Hgr2 := Lib.hid hgr2
  clear hb2 hb2' hgr2 hrB hSw hcb2
  dsimp only
  refine hK.out _ _ hS2 (fun hSw => ?_)
  clear hK K hS2
  refine wpAnyH_ready (rs := [11]) (by kernel_rfl) (by simp) ?_
  refine AllReadyH.cons rfl (fun K hK => ?_) AllReadyH.nil
  simp only [List.getElem_toArray, List.getElem_cons_succ, List.getElem_cons_zero]
  go_simp
  refine Hgr2.out.mono ?_
  rintro e w3 ⟨hb3, h3⟩
  obtain ⟨Ag, cg, rfl, hog⟩ : ∃ A c, e = .returned (.tuple #[.slice A n c, .bool true]) ∧ w3.ownsRow w2.heap.size 2 1 (.slice A n c) n (nums .i64 gv) := by
    rcases h3 with ⟨_, A, c, he, _, ho⟩ | ⟨hno, _⟩
    · exact ⟨A, c, he, ho⟩
    · exact absurd Hbg.out hno
  have hS3 := And.intro (cell_below hb3 hSw.1) (cell_below hb3 hSw.2)
  have hb3' := Hb2.out.trans (hb3.mono Hb2.out.size)
  have hx3 := (hb3'.block b hbw).trans H0.out
  have Hb3 := Lib.hid hb3'; have Hog := Lib.hid hog; have HX3 := Lib.hid hx3
  clear hb3 hb3' h3 hog hx3 hSw
  dsimp only
  refine hK.out _ _ hS3 (fun hSw => ?_)
  clear hK K hS3
  refine wpAnyH_take (i := 12) (v := ?_) rfl (by kernel_rfl) (by kernel_rfl) (by kernel_rfl) (fun _ _ _ h => h) (Or.inl ⟨by rfl, ?_⟩) hSw ?_
  rotate_left
  · intro w9 hS9; (try dsimp only at hS9); obtain ⟨s1, s2⟩ := hS9; go_simp; (try with_reducible rfl)
  simp only [List.getElem_toArray, List.getElem_cons_succ, List.getElem_cons_zero, Act.put, List.setIfInBounds_toArray, List.set_cons_zero, List.set_cons_succ]
  refine wpAnyH_take (i := 13) (v := ?_) rfl (by kernel_rfl) (by kernel_rfl) (by kernel_rfl) (fun _ _ _ h => h) (Or.inl ⟨by rfl, ?_⟩) hSw ?_
  rotate_left
  · intro w9 hS9; (try dsimp only at hS9); obtain ⟨s1, s2⟩ := hS9; go_simp; (try with_reducible rfl)
  simp only [List.getElem_toArray, List.getElem_cons_succ, List.getElem_cons_zero, Act.put, List.setIfInBounds_toArray, List.set_cons_zero, List.set_cons_succ]
  refine wpAnyH_take (i := 14) (v := ?_) rfl (by kernel_rfl) (by kernel_rfl) (by kernel_rfl) (fun _ _ _ h => h) (Or.inl ⟨by rfl, ?_⟩) hSw ?_
  rotate_left
  · intro w9 hS9; (try dsimp only at hS9); obtain ⟨s1, s2⟩ := hS9; go_simp; (try with_reducible rfl)
  simp only [List.getElem_toArray, List.getElem_cons_succ, List.getElem_cons_zero, Act.put, List.setIfInBounds_toArray, List.set_cons_zero, List.set_cons_succ]
  refine wpAnyH_take (i := 15) (v := ?_) rfl (by kernel_rfl) (by kernel_rfl) (by kernel_rfl) (fun _ _ _ h => h) (Or.inl ⟨by rfl, ?_⟩) hSw ?_
  rotate_left
  · intro w9 hS9; (try dsimp only at hS9); obtain ⟨s1, s2⟩ := hS9; go_simp; (try with_reducible rfl)
  simp only [List.getElem_toArray, List.getElem_cons_succ, List.getElem_cons_zero, Act.put, List.setIfInBounds_toArray, List.set_cons_zero, List.set_cons_succ]
  refine wpAnyH_take (i := 16) (v := ?_) rfl (by kernel_rfl) (by kernel_rfl) (by kernel_rfl) (fun _ _ _ h => h) (Or.inl ⟨by rfl, ?_⟩) hSw ?_
  rotate_left
  · intro w9 hS9; (try dsimp only at hS9); obtain ⟨s1, s2⟩ := hS9; go_simp; (try with_reducible rfl)
  simp only [List.getElem_toArray, List.getElem_cons_succ, List.getElem_cons_zero, Act.put, List.setIfInBounds_toArray, List.set_cons_zero, List.set_cons_succ]
  refine wpAnyH_done (by kernel_rfl) ?_ _
  clear hSw r0 r1 r2 r3 r4 r5 r6 r7 r8 rf
  have hx3 := HX3.out
  have r0 := cell_of_row w3 _ 0 _ _ _ hx3
  have r1 := cell_of_row w3 _ 1 _ _ _ hx3
  have r2 := cell_of_row w3 _ 2 _ _ _ hx3
  have r3 := cell_of_row w3 _ 3 _ _ _ hx3
  have r4 := cell_of_row w3 _ 4 _ _ _ hx3
  have r5 := cell_of_row w3 _ 5 _ _ _ hx3
  have r6 := cell_of_row w3 _ 6 _ _ _ hx3
  have r7 := cell_of_row w3 _ 7 _ _ _ hx3
  have r8 := cell_of_row w3 _ 8 _ _ _ hx3
  have rf := fun j => frozen_of_row w3 _ j _ _ hx3
  have hl3 := lt_of_block hx3
  clear hx3
  go_wp2_with fail
  have hSw : (fun w' : World => w'.cell? ⟨b, 3, none⟩ = some (.int .i64 ra) ∧ w'.cell? ⟨b, 4, none⟩ = some (.int .i64 mo) ∧ w'.cell? ⟨b, 5, none⟩ = some (.int .i64 q) ∧ w'.cell? ⟨b, 6, none⟩ = some (.slice Ap n cp) ∧ w'.cell? ⟨b, 7, none⟩ = some (.slice Am n cm)) w3.drew := ⟨r3, r4, r5, r6, r7⟩
  refine wp_region_X 15 (fun w' : World => w'.cell? ⟨b, 3, none⟩ = some (.int .i64 ra) ∧ w'.cell? ⟨b, 4, none⟩ = some (.int .i64 mo) ∧ w'.cell? ⟨b, 5, none⟩ = some (.int .i64 q) ∧ w'.cell? ⟨b, 6, none⟩ = some (.slice Ap n cp) ∧ w'.cell? ⟨b, 7, none⟩ = some (.slice Am n cm)) (by kernel_rfl) ?_
  refine wpAnyX_take (i := 0) (v := ?_) rfl (by kernel_rfl) (by decide) (by kernel_rfl) (by kernel_rfl) (by kernel_rfl) (by kernel_rfl) (fun _ _ _ h => h) (Or.inl ⟨by rfl, ?_⟩) hSw ?_
  rotate_left
  · intro w9 hS9; (try dsimp only at hS9); obtain ⟨s1, s2, s3, s4, s5⟩ := hS9; go_simp; (try with_reducible rfl)
  simp only [List.getElem_toArray, List.getElem_cons_succ, List.getElem_cons_zero, Act.put, List.setIfInBounds_toArray, List.set_cons_zero, List.set_cons_succ]
  refine wpAnyX_take (i := 1) (v := ?_) rfl (by kernel_rfl) (by decide) (by kernel_rfl) (by kernel_rfl) (by kernel_rfl) (by kernel_rfl) (fun _ _ _ h => h) (Or.inl ⟨by rfl, ?_⟩) hSw ?_
  rotate_left
  · intro w9 hS9; (try dsimp only at hS9); obtain ⟨s1, s2, s3, s4, s5⟩ := hS9; go_simp; (try with_reducible rfl)
  simp only [List.getElem_toArray, List.getElem_cons_succ, List.getElem_cons_zero, Act.put, List.setIfInBounds_toArray, List.set_cons_zero, List.set_cons_succ]
  refine wpAnyX_take (i := 2) (v := ?_) rfl (by kernel_rfl) (by decide) (by kernel_rfl) (by kernel_rfl) (by kernel_rfl) (by kernel_rfl) (fun _ _ _ h => h) (Or.inl ⟨by rfl, ?_⟩) hSw ?_
  rotate_left
  · intro w9 hS9; (try dsimp only at hS9); obtain ⟨s1, s2, s3, s4, s5⟩ := hS9; go_simp; (try with_reducible rfl)
  simp only [List.getElem_toArray, List.getElem_cons_succ, List.getElem_cons_zero, Act.put, List.setIfInBounds_toArray, List.set_cons_zero, List.set_cons_succ]
  refine wpAnyX_take (i := 3) (v := ?_) rfl (by kernel_rfl) (by decide) (by kernel_rfl) (by kernel_rfl) (by kernel_rfl) (by kernel_rfl) (fun _ _ _ h => h) (Or.inl ⟨by rfl, ?_⟩) hSw ?_
  rotate_left
  · intro w9 hS9; (try dsimp only at hS9); obtain ⟨s1, s2, s3, s4, s5⟩ := hS9; go_simp; (try with_reducible rfl)
  simp only [List.getElem_toArray, List.getElem_cons_succ, List.getElem_cons_zero, Act.put, List.setIfInBounds_toArray, List.set_cons_zero, List.set_cons_succ]
  refine wpAnyX_take (i := 4) (v := ?_) rfl (by kernel_rfl) (by decide) (by kernel_rfl) (by kernel_rfl) (by kernel_rfl) (by kernel_rfl) (fun _ _ _ h => h) (Or.inl ⟨by rfl, ?_⟩) hSw ?_
  rotate_left
  · intro w9 hS9; (try dsimp only at hS9); obtain ⟨s1, s2, s3, s4, s5⟩ := hS9; go_simp; (try with_reducible rfl)
  simp only [List.getElem_toArray, List.getElem_cons_succ, List.getElem_cons_zero, Act.put, List.setIfInBounds_toArray, List.set_cons_zero, List.set_cons_succ]
  refine wpAnyX_take (i := 5) (v := ?_) rfl (by kernel_rfl) (by decide) (by kernel_rfl) (by kernel_rfl) (by kernel_rfl) (by kernel_rfl) (fun _ _ _ h => h) (Or.inl ⟨by rfl, ?_⟩) hSw ?_
  rotate_left
  · intro w9 hS9; (try dsimp only at hS9); obtain ⟨s1, s2, s3, s4, s5⟩ := hS9; go_simp; (try with_reducible rfl)
  simp only [List.getElem_toArray, List.getElem_cons_succ, List.getElem_cons_zero, Act.put, List.setIfInBounds_toArray, List.set_cons_zero, List.set_cons_succ]
  refine wpAnyX_take (i := 6) (v := ?_) rfl (by kernel_rfl) (by decide) (by kernel_rfl) (by kernel_rfl) (by kernel_rfl) (by kernel_rfl) (fun _ _ _ h => h) (Or.inl ⟨by rfl, ?_⟩) hSw ?_
  rotate_left
  · intro w9 hS9; (try dsimp only at hS9); obtain ⟨s1, s2, s3, s4, s5⟩ := hS9; go_simp; (try with_reducible rfl)
  simp only [List.getElem_toArray, List.getElem_cons_succ, List.getElem_cons_zero, Act.put, List.setIfInBounds_toArray, List.set_cons_zero, List.set_cons_succ]
  refine wpAnyX_take (i := 7) (v := ?_) rfl (by kernel_rfl) (by decide) (by kernel_rfl) (by kernel_rfl) (by kernel_rfl) (by kernel_rfl) (fun _ _ _ h => h) (Or.inl ⟨by rfl, ?_⟩) hSw ?_
  rotate_left
  · intro w9 hS9; (try dsimp only at hS9); obtain ⟨s1, s2, s3, s4, s5⟩ := hS9; go_simp; (try with_reducible rfl)
  simp only [List.getElem_toArray, List.getElem_cons_succ, List.getElem_cons_zero, Act.put, List.setIfInBounds_toArray, List.set_cons_zero, List.set_cons_succ]
  refine wpAnyX_take (i := 8) (v := ?_) rfl (by kernel_rfl) (by decide) (by kernel_rfl) (by kernel_rfl) (by kernel_rfl) (by kernel_rfl) (fun _ _ _ h => h) (Or.inl ⟨by rfl, ?_⟩) hSw ?_
  rotate_left
  · intro w9 hS9; (try dsimp only at hS9); obtain ⟨s1, s2, s3, s4, s5⟩ := hS9; go_simp; (try with_reducible rfl)
  simp only [List.getElem_toArray, List.getElem_cons_succ, List.getElem_cons_zero, Act.put, List.setIfInBounds_toArray, List.set_cons_zero, List.set_cons_succ]
  refine wpAnyX_take (i := 9) (v := ?_) rfl (by kernel_rfl) (by decide) (by kernel_rfl) (by kernel_rfl) (by kernel_rfl) (by kernel_rfl) (fun _ _ _ h => h) (Or.inl ⟨by rfl, ?_⟩) hSw ?_
  rotate_left
  · intro w9 hS9; (try dsimp only at hS9); obtain ⟨s1, s2, s3, s4, s5⟩ := hS9; go_simp; (try with_reducible rfl)
  simp only [List.getElem_toArray, List.getElem_cons_succ, List.getElem_cons_zero, Act.put, List.setIfInBounds_toArray, List.set_cons_zero, List.set_cons_succ]
  refine wpAnyX_take (i := 10) (v := ?_) rfl (by kernel_rfl) (by decide) (by kernel_rfl) (by kernel_rfl) (by kernel_rfl) (by kernel_rfl) (fun _ _ _ h => h) (Or.inl ⟨by rfl, ?_⟩) hSw ?_
  rotate_left
  · intro w9 hS9; (try dsimp only at hS9); obtain ⟨s1, s2, s3, s4, s5⟩ := hS9; go_simp; (try with_reducible rfl)
  simp only [List.getElem_toArray, List.getElem_cons_succ, List.getElem_cons_zero, Act.put, List.setIfInBounds_toArray, List.set_cons_zero, List.set_cons_succ]
  refine wpAnyX_ready (rs := [11]) (by kernel_rfl) (by simp) ?_
  refine AllReadyX.cons rfl (fun K hK => ?_) AllReadyX.nil
  simp only [List.getElem_toArray, List.getElem_cons_succ, List.getElem_cons_zero]
  go_simp
  refine (Hnx.out Ag cg _ Hb3.out.drew (Rd.own Hog.out).drew (fun a ha => (own_addr Hog.out a ha).2)).mono ?_
  rintro e w4 ⟨A1, c1, A2, c2, rfl, hc1, hc2, ho1, ho2, hb4⟩
  have hS4 := And.intro (cell_below hb4 hSw.1) (And.intro (cell_below hb4 hSw.2.1) (And.intro (cell_below hb4 hSw.2.2.1) (And.intro (cell_below hb4 hSw.2.2.2.1) (cell_below hb4 hSw.2.2.2.2))))
  have hb4' : Below w3.heap.size w3 w4 := (Below.refl w3.heap.size w3).drew.trans hb4
  have hx4 := (hb4'.block b hl3).trans HX3.out
  have Hb4 := Lib.hid (Hb3.out.trans (hb4'.mono Hb3.out.size)); have HX4 := Lib.hid hx4; have Ho1 := Lib.hid ho1; have Ho2 := Lib.hid ho2
  clear hb4 hb4' hx4 ho1 ho2 hc1 hc2 hSw
  dsimp only
  refine hK.out _ _ hS4 (fun hSw => ?_)
  clear hK K hS4
  refine wpAnyX_take0 (i := 12) (v := ?_) rfl (by decide) (by kernel_rfl) (by kernel_rfl) (by kernel_rfl) (fun _ _ _ h => h) (Or.inl ⟨by rfl, ?_⟩) hSw ?_
  rotate_left
  · intro w9 _; go_simp; (try with_reducible rfl)
  simp only [List.getElem_toArray, List.getElem_cons_succ, List.getElem_cons_zero, Act.put, List.setIfInBounds_toArray, List.set_cons_zero, List.set_cons_succ]
  refine wpAnyX_take0 (i := 13) (v := ?_) rfl (by decide) (by kernel_rfl) (by kernel_rfl) (by kernel_rfl) (fun _ _ _ h => h) (Or.inl ⟨by rfl, ?_⟩) hSw ?_
  rotate_left
  · intro w9 _; go_simp; (try with_reducible rfl)
  simp only [List.getElem_toArray, List.getElem_cons_succ, List.getElem_cons_zero, Act.put, List.setIfInBounds_toArray, List.set_cons_zero, List.set_cons_succ]
  refine wpAnyX_take0 (i := 14) (v := ?_) rfl (by decide) (by kernel_rfl) (by kernel_rfl) (by kernel_rfl) (fun _ _ _ h => h) (Or.inl ⟨by rfl, ?_⟩) hSw ?_
  rotate_left
  · intro w9 _; go_simp; (try with_reducible rfl)
  simp only [List.getElem_toArray, List.getElem_cons_succ, List.getElem_cons_zero, Act.put, List.setIfInBounds_toArray, List.set_cons_zero, List.set_cons_succ]
  refine wpAnyX_tail (by rfl) (by kernel_rfl) ?_
  clear hSw r0 r1 r2 r3 r4 r5 r6 r7 r8 rf
  have hx4 := HX4.out
  have r0 := cell_of_row w4 _ 0 _ _ _ hx4
  have r1 := cell_of_row w4 _ 1 _ _ _ hx4
  have r2 := cell_of_row w4 _ 2 _ _ _ hx4
  have r3 := cell_of_row w4 _ 3 _ _ _ hx4
  have r4 := cell_of_row w4 _ 4 _ _ _ hx4
  have r5 := cell_of_row w4 _ 5 _ _ _ hx4
  have r6 := cell_of_row w4 _ 6 _ _ _ hx4
  have r7 := cell_of_row w4 _ 7 _ _ _ hx4
  have r8 := cell_of_row w4 _ 8 _ _ _ hx4
  have rf := fun j => frozen_of_row w4 _ j _ _ hx4
  have hl4 := lt_of_block hx4
  clear hx4
  simp only [List.drop_succ_cons, List.drop_zero]
  go_wp2_with fail
  have e1 := heap_setCell_same w4 b 6 _ _ (.slice A1 n c1) HX4.out
  have e2 := heap_setCell_same _ b 7 _ _ (.slice A2 n c2) e1
  have e3 := heap_setCell_same _ b 8 _ _ (.int .i64 ((k : Int) + 1)) e2
  have hk9 : Keep (fun j => j = b) w4 (((w4.setCell ⟨b, 6, none⟩ (.slice A1 n c1)).setCell ⟨b, 7, none⟩ (.slice A2 n c2)).setCell ⟨b, 8, none⟩ (.int .i64 ((k : Int) + 1))) := Keep.setCell (S := fun j => j = b) (Keep.setCell (S := fun j => j = b) (Keep.setCell (S := fun j => j = b) (Keep.refl _ _) ⟨b, 6, none⟩ (.inr rfl) _) ⟨b, 7, none⟩ (.inr rfl) _) ⟨b, 8, none⟩ (.inr rfl) _
  obtain ⟨W9, hW9⟩ : ∃ W9, W9 = ((w4.setCell ⟨b, 6, none⟩ (.slice A1 n c1)).setCell ⟨b, 7, none⟩ (.slice A2 n c2)).setCell ⟨b, 8, none⟩ (.int .i64 ((k : Int) + 1)) := ⟨_, rfl⟩
  rw [← hW9] at hk9 e3 ⊢
  clear hW9 e1 e2
  have hsz3 := Hb3.out.size
  have ha1 := own_addr Ho1.out
  have ha2 := own_addr Ho2.out
  have n1 : ∀ a, A1 = some a → a.block ≠ b := fun a ha e => by have := (ha1 a ha).1; simp at this; omega
  have n2 : ∀ a, A2 = some a → a.block ≠ b := fun a ha e => by have := (ha2 a ha).1; simp at this; omega
  have hfn := Hfin.out W9 A1 A2 c1 c2 (by simpa using e3) ((Keep.below Hb4.out).trans hk9) (hk9.rd (Rd.own Ho1.out) (fun a ha e => n1 a ha e)) (hk9.rd (Rd.own Ho2.out) (fun a ha e => n2 a ha e)) n1 n2 (hk9.own (own_base (base' := 0) Ho1.out (Nat.zero_le _)) (fun j hj e => block_notrow HX4.out (by decide) Ho1.out (by rw [hj, e]))) (hk9.own (own_base (base' := 0) Ho2.out (Nat.zero_le _)) (fun j hj e => block_notrow HX4.out (by decide) Ho2.out (by rw [hj, e])))
  have Hfn := Lib.hid hfn; have HK9 := Lib.hid ((Keep.below (S := fun j => j = b) Hb4.out).trans hk9)
  clear hfn hk9 e3 n1 n2 ha1 ha2
  go_ret
  exact ⟨rfl, Hfn.out, HK9.out⟩
end Go.Proofs.YtfiojofcafjfeaaGreat
