/- Run.each: a function is called for some examples. No condition. -/
import Derived.Test.YtfiojofcafjfeaaGreatJ29
set_option linter.unusedSimpArgs false
set_option linter.unusedVariables false
namespace Go.Proofs.YtfiojofcafjfeaaGreat
open Go.RowKit

/-- What each leaves: J is what the function keeps, G are the blocks that it may change. -/
def EachIs (N : Nat) (idx : List Int) (G : Nat → Prop) (J : Nat → World → Prop) (w : World) (e : Ending) (w' : World) : Prop := Keep G w w' ∧
  (((∀ k, k < idx.length → goodI N (nth idx k)) ∧ e = .returned (.bool true) ∧ J idx.length w') ∨ ((¬ ∀ k, k < idx.length → goodI N (nth idx k)) ∧ e = .returned (.bool false) ∧ J 0 w'))

set_option maxRecDepth 100000 in
set_option maxHeartbeats 4000000 in
theorem each_any (g X b k d : Nat) (B : Option Addr) (i : Inp) (P M idx : List Int) (G : Nat → Prop) (J : Nat → World → Prop) (w : World) (heg : ∀ args w, (callFunc g args).run Tryz.prog w = .ok (.enter g args) w) (h : RunAt w b i P M k) (hg : GoodIn i) (hB : Rd w B (nums .i64 idx)) (hil : idx.length ≤ 1048576)
    (hG1 : ∀ j, G j → j < w.heap.size) (hG2 : ∀ j, G j → b < j) (hJ : ∀ j w' w'', J j w' → Below w'.heap.size w' w'' → J j w'') (h0 : J 0 w)
    (hcl : ∀ j x net A1 c1 A2 c2 w', (∀ k, k < idx.length → goodI i.data.length (nth idx k)) → j < idx.length → (pickL i.data idx)[j]? = some x → NetAt 138 170 w' net i.cfg.sizes P i.cfg.shift → NumsRd w' A1 x.1 c1 → NumsRd w' A2 x.2 c2 → J j w' →
      Calls Tryz.prog g #[.pointer (some ⟨net, 0, none⟩), .agg #[.slice A1 x.1.length c1, .slice A2 x.2.length c2], .pointer (some ⟨X, 0, none⟩)] w' fun e w'' => e = .returned (.tuple #[]) ∧ J (j + 1) w'' ∧ Keep G w' w'') :
    Calls Tryz.prog 52 #[.pointer (some ⟨b, 0, none⟩), .slice B idx.length d, .func (.func g) #[] #[.pointer (some ⟨X, 0, none⟩)]] w (EachIs i.data.length idx G J w) := by
  obtain ⟨V, F, E, ce, S, Ap, cp, Am, cm, hb0, hF, hE, hS, hVb, hVw, hP, hMm, hPl, hMl, wP, wM, hne1, hne2⟩ := h
  have hpk := fun w' (q : Below w.heap.size w w') => pick_own ce d E B i.data idx w' (hE.below stays_ex (hVw.trans (q.mono hVw.size))) hg.b.2 (hB.below q) hil
  have hnn := fun w' (q : Below w.heap.size w w') => net_new_own F i.cfg.sizes P Ap cp i.cfg.shift w' (hF.below (hVw.trans (q.mono hVw.size))) hg.c.z ⟨by have := hg.c.s; omega, by have := hg.c.s; omega⟩ hPl (hP.below q)
  have hgz := hg.c.z
  have hpl := pickL_len i.data idx
  unfold EachIs
  obtain ⟨n, hn⟩ : ∃ n, idx.length = n := ⟨_, rfl⟩
  obtain ⟨N, hN⟩ : ∃ N, i.data.length = N := ⟨_, rfl⟩
  obtain ⟨CN, hCN⟩ : ∃ CN, cnt i = CN := ⟨_, rfl⟩
  obtain ⟨q, hq⟩ : ∃ q, i.cfg.shift = q := ⟨_, rfl⟩
  obtain ⟨pl, hpl'⟩ : ∃ pl, pickL i.data idx = pl := ⟨_, rfl⟩
  have hPc : P.length = cntN i.cfg.sizes (i.cfg.sizes.length - 1) := hPl
  obtain ⟨sz, hsz⟩ : ∃ sz, i.cfg.sizes = sz := ⟨_, rfl⟩
  rw [hsz] at hF hPc hgz hnn hcl
  rw [hpl'] at hpk hpl hcl
  rw [hq] at hb0 hnn hcl
  rw [hCN] at hb0 hPl
  rw [hN] at hb0 hpk hcl ⊢
  rw [hn] at hpk hil hpl hcl ⊢
  rw [hPl] at hnn
  have r0 := cell_of_row w _ 0 _ _ _ hb0
  have r1 := cell_of_row w _ 1 _ _ _ hb0
  have r2 := cell_of_row w _ 2 _ _ _ hb0
  have r3 := cell_of_row w _ 3 _ _ _ hb0
  have r4 := cell_of_row w _ 4 _ _ _ hb0
  have r5 := cell_of_row w _ 5 _ _ _ hb0
  have r6 := cell_of_row w _ 6 _ _ _ hb0
  have r7 := cell_of_row w _ 7 _ _ _ hb0
  have r8 := cell_of_row w _ 8 _ _ _ hb0
  have rf := fun j => frozen_of_row w _ j _ _ hb0
  have hbl := lt_of_block hb0
  have Heg := Lib.hid heg; have Hpk := Lib.hid hpk; have Hnn := Lib.hid hnn; have HF := Lib.hid hF; have HVb := Lib.hid hVb; have HVw := Lib.hid hVw; have HG1 := Lib.hid hG1; have HG2 := Lib.hid hG2; have HJ := Lib.hid hJ; have H0 := Lib.hid h0; have Hcl := Lib.hid hcl; have HGZ := Lib.hid hgz; have Hpl := Lib.hid hpl; have HPc := Lib.hid hPc; have Hb0 := Lib.hid hb0
  clear heg hpk hnn hF hVb hVw hG1 hG2 hJ h0 hcl hgz hpl hPc hb0 hE hS hP hMm hPl hMl wP wM hne1 hne2 hB hg hn hN hCN hq hpl' hsz
  go_enter Tryz.func52, Tryz.ntmps52
  go_wp2_with fail
  refine (Hpk.out w (Below.refl _ _)).mono ?_
  rintro e w1 ⟨hb1, hp⟩
  have hbx := (hb1.block _ hbl).trans Hb0.out
  clear r0 r1 r2 r3 r4 r5 r6 r7 r8 rf
  have r0 := cell_of_row w1 _ 0 _ _ _ hbx
  have r1 := cell_of_row w1 _ 1 _ _ _ hbx
  have r2 := cell_of_row w1 _ 2 _ _ _ hbx
  have r3 := cell_of_row w1 _ 3 _ _ _ hbx
  have r4 := cell_of_row w1 _ 4 _ _ _ hbx
  have r5 := cell_of_row w1 _ 5 _ _ _ hbx
  have r6 := cell_of_row w1 _ 6 _ _ _ hbx
  have r7 := cell_of_row w1 _ 7 _ _ _ hbx
  have r8 := cell_of_row w1 _ 8 _ _ _ hbx
  have rf := fun j => frozen_of_row w1 _ j _ _ hbx
  have hl1 := lt_of_block hbx
  have Hb1 := Lib.hid hb1
  clear hb1 hbx
  obtain ⟨ok, Lv, ln, lc, rfl, hln, hok⟩ : ∃ (ok : Bool) (Lv : Option Addr) (ln lc : Nat), e = .returned (.tuple #[.slice Lv ln lc, .bool ok]) ∧ ln ≤ n ∧ (((∀ k, k < n → goodI N (nth idx k)) ∧ ok = true ∧ ln = n ∧ MapO w.heap.size w1 pl n (.slice Lv n lc)) ∨ ((¬ ∀ k, k < n → goodI N (nth idx k)) ∧ ok = false ∧ ln = 0)) := by
    rcases hp with ⟨h1, A', c', rfl, h2⟩ | ⟨h1, rfl⟩
    · exact ⟨true, A', n, c', rfl, Nat.le_refl _, .inl ⟨h1, rfl, rfl, h2⟩⟩
    · exact ⟨false, none, 0, 0, rfl, Nat.zero_le _, .inr ⟨h1, rfl, rfl⟩⟩
  have Hok := Lib.hid hok
  clear hp hok
  go_wp2_with fail
  have hSw : (fun w' : World => w'.cell? ⟨b, 0, none⟩ = some (.pointer (some ⟨F, 0, none⟩)) ∧ w'.cell? ⟨b, 6, none⟩ = some (.slice Ap CN cp) ∧ w'.cell? ⟨b, 5, none⟩ = some (.int .i64 q)) w1.drew := ⟨r0, r6, r5⟩
  refine wp_region_held (S := (fun w' : World => w'.cell? ⟨b, 0, none⟩ = some (.pointer (some ⟨F, 0, none⟩)) ∧ w'.cell? ⟨b, 6, none⟩ = some (.slice Ap CN cp) ∧ w'.cell? ⟨b, 5, none⟩ = some (.int .i64 q))) (by kernel_rfl) ?_
  change wpAnyH _ _ _ _ _ _ _ _ w1.drew
  refine wpAnyH_take (i := 0) (v := ?_) rfl (by kernel_rfl) (by kernel_rfl) (by kernel_rfl) (fun _ _ _ h => h) (Or.inl ⟨by rfl, ?_⟩) hSw ?_
  rotate_left
  · intro w9 hS9; (try dsimp only at hS9); obtain ⟨s1, s2, s3⟩ := hS9; go_simp; (try with_reducible rfl)
  simp only [List.getElem_toArray, List.getElem_cons_succ, List.getElem_cons_zero, Act.put, List.setIfInBounds_toArray, List.set_cons_zero, List.set_cons_succ]
  refine wpAnyH_take (i := 1) (v := ?_) rfl (by kernel_rfl) (by kernel_rfl) (by kernel_rfl) (fun _ _ _ h => h) (Or.inl ⟨by rfl, ?_⟩) hSw ?_
  rotate_left
  · intro w9 hS9; (try dsimp only at hS9); obtain ⟨s1, s2, s3⟩ := hS9; go_simp; (try with_reducible rfl)
  simp only [List.getElem_toArray, List.getElem_cons_succ, List.getElem_cons_zero, Act.put, List.setIfInBounds_toArray, List.set_cons_zero, List.set_cons_succ]
  refine wpAnyH_take (i := 2) (v := ?_) rfl (by kernel_rfl) (by kernel_rfl) (by kernel_rfl) (fun _ _ _ h => h) (Or.inl ⟨by rfl, ?_⟩) hSw ?_
  rotate_left
  · intro w9 hS9; (try dsimp only at hS9); obtain ⟨s1, s2, s3⟩ := hS9; go_simp; (try with_reducible rfl)
  simp only [List.getElem_toArray, List.getElem_cons_succ, List.getElem_cons_zero, Act.put, List.setIfInBounds_toArray, List.set_cons_zero, List.set_cons_succ]
  refine wpAnyH_take (i := 3) (v := ?_) rfl (by kernel_rfl) (by kernel_rfl) (by kernel_rfl) (fun _ _ _ h => h) (Or.inl ⟨by rfl, ?_⟩) hSw ?_
  rotate_left
  · intro w9 hS9; (try dsimp only at hS9); obtain ⟨s1, s2, s3⟩ := hS9; go_simp; (try with_reducible rfl)
  simp only [List.getElem_toArray, List.getElem_cons_succ, List.getElem_cons_zero, Act.put, List.setIfInBounds_toArray, List.set_cons_zero, List.set_cons_succ]
  refine wpAnyH_take (i := 4) (v := ?_) rfl (by kernel_rfl) (by kernel_rfl) (by kernel_rfl) (fun _ _ _ h => h) (Or.inl ⟨by rfl, ?_⟩) hSw ?_
  rotate_left
  · intro w9 hS9; (try dsimp only at hS9); obtain ⟨s1, s2, s3⟩ := hS9; go_simp; (try with_reducible rfl)
  simp only [List.getElem_toArray, List.getElem_cons_succ, List.getElem_cons_zero, Act.put, List.setIfInBounds_toArray, List.set_cons_zero, List.set_cons_succ]
  refine wpAnyH_take (i := 5) (v := ?_) rfl (by kernel_rfl) (by kernel_rfl) (by kernel_rfl) (fun _ _ _ h => h) (Or.inl ⟨by rfl, ?_⟩) hSw ?_
  rotate_left
  · intro w9 hS9; (try dsimp only at hS9); obtain ⟨s1, s2, s3⟩ := hS9; go_simp; (try with_reducible rfl)
  simp only [List.getElem_toArray, List.getElem_cons_succ, List.getElem_cons_zero, Act.put, List.setIfInBounds_toArray, List.set_cons_zero, List.set_cons_succ]
  refine wpAnyH_take (i := 6) (v := ?_) rfl (by kernel_rfl) (by kernel_rfl) (by kernel_rfl) (fun _ _ _ h => h) (Or.inl ⟨by rfl, ?_⟩) hSw ?_
  rotate_left
  · intro w9 hS9; (try dsimp only at hS9); obtain ⟨s1, s2, s3⟩ := hS9; go_simp; (try with_reducible rfl)
  simp only [List.getElem_toArray, List.getElem_cons_succ, List.getElem_cons_zero, Act.put, List.setIfInBounds_toArray, List.set_cons_zero, List.set_cons_succ]
  refine wpAnyH_take (i := 7) (v := ?_) rfl (by kernel_rfl) (by kernel_rfl) (by kernel_rfl) (fun _ _ _ h => h) (Or.inl ⟨by rfl, ?_⟩) hSw ?_
  rotate_left
  · intro w9 hS9; (try dsimp only at hS9); obtain ⟨s1, s2, s3⟩ := hS9; go_simp; (try with_reducible rfl)
  simp only [List.getElem_toArray, List.getElem_cons_succ, List.getElem_cons_zero, Act.put, List.setIfInBounds_toArray, List.set_cons_zero, List.set_cons_succ]
  refine wpAnyH_take (i := 8) (v := ?_) rfl (by kernel_rfl) (by kernel_rfl) (by kernel_rfl) (fun _ _ _ h => h) (Or.inl ⟨by rfl, ?_⟩) hSw ?_
  rotate_left
  · intro w9 hS9; (try dsimp only at hS9); obtain ⟨s1, s2, s3⟩ := hS9; go_simp; (try with_reducible rfl)
  simp only [List.getElem_toArray, List.getElem_cons_succ, List.getElem_cons_zero, Act.put, List.setIfInBounds_toArray, List.set_cons_zero, List.set_cons_succ]
  refine wpAnyH_take (i := 9) (v := ?_) rfl (by kernel_rfl) (by kernel_rfl) (by kernel_rfl) (fun _ _ _ h => h) (Or.inl ⟨by rfl, ?_⟩) hSw ?_
  rotate_left
  · intro w9 hS9; (try dsimp only at hS9); obtain ⟨s1, s2, s3⟩ := hS9; go_simp; (try with_reducible rfl)
  simp only [List.getElem_toArray, List.getElem_cons_succ, List.getElem_cons_zero, Act.put, List.setIfInBounds_toArray, List.set_cons_zero, List.set_cons_succ]
  refine wpAnyH_take (i := 10) (v := ?_) rfl (by kernel_rfl) (by kernel_rfl) (by kernel_rfl) (fun _ _ _ h => h) (Or.inl ⟨by rfl, ?_⟩) hSw ?_
  rotate_left
  · intro w9 hS9; (try dsimp only at hS9); obtain ⟨s1, s2, s3⟩ := hS9; go_simp; (try with_reducible rfl)
  simp only [List.getElem_toArray, List.getElem_cons_succ, List.getElem_cons_zero, Act.put, List.setIfInBounds_toArray, List.set_cons_zero, List.set_cons_succ]
  refine wpAnyH_take (i := 11) (v := ?_) rfl (by kernel_rfl) (by kernel_rfl) (by kernel_rfl) (fun _ _ _ h => h) (Or.inl ⟨by rfl, ?_⟩) hSw ?_
  rotate_left
  · intro w9 hS9; (try dsimp only at hS9); obtain ⟨s1, s2, s3⟩ := hS9; go_simp; (try with_reducible rfl)
  simp only [List.getElem_toArray, List.getElem_cons_succ, List.getElem_cons_zero, Act.put, List.setIfInBounds_toArray, List.set_cons_zero, List.set_cons_succ]
  refine wpAnyH_take (i := 12) (v := ?_) rfl (by kernel_rfl) (by kernel_rfl) (by kernel_rfl) (fun _ _ _ h => h) (Or.inl ⟨by rfl, ?_⟩) hSw ?_
  rotate_left
  · intro w9 hS9; (try dsimp only at hS9); obtain ⟨s1, s2, s3⟩ := hS9; go_simp; (try with_reducible rfl)
  simp only [List.getElem_toArray, List.getElem_cons_succ, List.getElem_cons_zero, Act.put, List.setIfInBounds_toArray, List.set_cons_zero, List.set_cons_succ]
  refine wpAnyH_take (i := 13) (v := ?_) rfl (by kernel_rfl) (by kernel_rfl) (by kernel_rfl) (fun _ _ _ h => h) (Or.inl ⟨by rfl, ?_⟩) hSw ?_
  rotate_left
  · intro w9 hS9; (try dsimp only at hS9); obtain ⟨s1, s2, s3⟩ := hS9; go_simp; (try with_reducible rfl)
  simp only [List.getElem_toArray, List.getElem_cons_succ, List.getElem_cons_zero, Act.put, List.setIfInBounds_toArray, List.set_cons_zero, List.set_cons_succ]
  refine wpAnyH_take (i := 14) (v := ?_) rfl (by kernel_rfl) (by kernel_rfl) (by kernel_rfl) (fun _ _ _ h => h) (Or.inl ⟨by rfl, ?_⟩) hSw ?_
  rotate_left
  · intro w9 hS9; (try dsimp only at hS9); obtain ⟨s1, s2, s3⟩ := hS9; go_simp; (try with_reducible rfl)
  simp only [List.getElem_toArray, List.getElem_cons_succ, List.getElem_cons_zero, Act.put, List.setIfInBounds_toArray, List.set_cons_zero, List.set_cons_succ]
  refine wpAnyH_take (i := 15) (v := ?_) rfl (by kernel_rfl) (by kernel_rfl) (by kernel_rfl) (fun _ _ _ h => h) (Or.inl ⟨by rfl, ?_⟩) hSw ?_
  rotate_left
  · intro w9 hS9; (try dsimp only at hS9); obtain ⟨s1, s2, s3⟩ := hS9; go_simp; (try with_reducible rfl)
  simp only [List.getElem_toArray, List.getElem_cons_succ, List.getElem_cons_zero, Act.put, List.setIfInBounds_toArray, List.set_cons_zero, List.set_cons_succ]
  refine wpAnyH_ready (rs := [16]) (by kernel_rfl) (by simp) ?_
  refine AllReadyH.cons rfl (fun K hK => ?_) AllReadyH.nil
  simp only [List.getElem_toArray, List.getElem_cons_succ, List.getElem_cons_zero]
  go_simp
  refine (Hnn.out _ Hb1.out.drew).mono ?_
  rintro e w2 ⟨net, rfl, _, _, hno, hb2⟩
  have hS2 := And.intro (cell_below hb2 hSw.1) (And.intro (cell_below hb2 hSw.2.1) (cell_below hb2 hSw.2.2))
  have hb2' : Below w1.heap.size w1 w2 := (Below.refl w1.heap.size w1).drew.trans hb2
  have Hno := Lib.hid hno; have Hb2 := Lib.hid hb2'
  clear hb2 hb2' hno hSw
  dsimp only
  refine hK.out _ _ hS2 (fun hSw => ?_)
  clear hK K hS2
  refine wpAnyH_take (i := 17) (v := ?_) rfl (by kernel_rfl) (by kernel_rfl) (by kernel_rfl) (fun _ _ _ h => h) (Or.inl ⟨by rfl, ?_⟩) hSw ?_
  rotate_left
  · intro w9 hS9; (try dsimp only at hS9); obtain ⟨s1, s2, s3⟩ := hS9; go_simp; (try with_reducible rfl)
  simp only [List.getElem_toArray, List.getElem_cons_succ, List.getElem_cons_zero, Act.put, List.setIfInBounds_toArray, List.set_cons_zero, List.set_cons_succ]
  refine wpAnyH_take (i := 18) (v := ?_) rfl (by kernel_rfl) (by kernel_rfl) (by kernel_rfl) (fun _ _ _ h => h) (Or.inl ⟨by rfl, ?_⟩) hSw ?_
  rotate_left
  · intro w9 hS9; (try dsimp only at hS9); obtain ⟨s1, s2, s3⟩ := hS9; go_simp; (try with_reducible rfl)
  simp only [List.getElem_toArray, List.getElem_cons_succ, List.getElem_cons_zero, Act.put, List.setIfInBounds_toArray, List.set_cons_zero, List.set_cons_succ]
  refine wpAnyH_take (i := 19) (v := ?_) rfl (by kernel_rfl) (by kernel_rfl) (by kernel_rfl) (fun _ _ _ h => h) (Or.inl ⟨by rfl, ?_⟩) hSw ?_
  rotate_left
  · intro w9 hS9; (try dsimp only at hS9); obtain ⟨s1, s2, s3⟩ := hS9; go_simp; (try with_reducible rfl)
  simp only [List.getElem_toArray, List.getElem_cons_succ, List.getElem_cons_zero, Act.put, List.setIfInBounds_toArray, List.set_cons_zero, List.set_cons_succ]
  refine wpAnyH_take (i := 20) (v := ?_) rfl (by kernel_rfl) (by kernel_rfl) (by kernel_rfl) (fun _ _ _ h => h) (Or.inl ⟨by rfl, ?_⟩) hSw ?_
  rotate_left
  · intro w9 hS9; (try dsimp only at hS9); obtain ⟨s1, s2, s3⟩ := hS9; go_simp; (try with_reducible rfl)
  simp only [List.getElem_toArray, List.getElem_cons_succ, List.getElem_cons_zero, Act.put, List.setIfInBounds_toArray, List.set_cons_zero, List.set_cons_succ]
  refine wpAnyH_take (i := 21) (v := ?_) rfl (by kernel_rfl) (by kernel_rfl) (by kernel_rfl) (fun _ _ _ h => h) (Or.inl ⟨by rfl, ?_⟩) hSw ?_
  rotate_left
  · intro w9 hS9; (try dsimp only at hS9); obtain ⟨s1, s2, s3⟩ := hS9; go_simp; (try with_reducible rfl)
  simp only [List.getElem_toArray, List.getElem_cons_succ, List.getElem_cons_zero, Act.put, List.setIfInBounds_toArray, List.set_cons_zero, List.set_cons_succ]
  refine wpAnyH_done (by kernel_rfl) ?_ _
  clear hSw r0 r1 r2 r3 r4 r5 r6 r7 r8 rf
  have hbase : w.heap.size ≤ w1.heap.size := Hb1.out.size
  have hno2 : NetO w2 w.heap.size net F sz P q := by
    obtain ⟨g, cp', Al, cl, rows, e0, e1, e2, e3, e4, e5, e6⟩ := Hno.out
    exact ⟨g, cp', Al, cl, rows, e0, Nat.le_trans hbase e1, own_base e2 hbase, own_base e3 hbase, e4, e5, fun j hj => by
      obtain ⟨g9, d9, k1, k2, k3⟩ := e6 j hj
      exact ⟨g9, d9, k1, k2, own_base k3 hbase⟩⟩
  have hJ2 : J 0 w2 := HJ.out 0 w w2 H0.out (Hb1.out.trans (Hb2.out.mono hbase))
  have hV2 : Below V.heap.size V w2 := HVw.out.trans ((Hb1.out.trans (Hb2.out.mono hbase)).mono HVw.out.size)
  have hK2 : Keep G w w2 := Keep.below (Hb1.out.trans (Hb2.out.mono hbase))
  have hM2 : ln = n → (∀ k, k < n → goodI N (nth idx k)) → True := fun _ _ => trivial
  clear hM2
  have hmo : ∃ good : Bool, (good = true → MapO w.heap.size w2 pl n (.slice Lv n lc) ∧ ln = n ∧ ∀ k, k < n → goodI N (nth idx k)) ∧ (good = false → ln = 0) := by
    rcases Hok.out with ⟨e0, _, e1, e2⟩ | ⟨_, _, e1⟩
    · exact ⟨true, fun _ => ⟨e2.below Hb2.out, e1, e0⟩, fun h => absurd h (by decide)⟩
    · exact ⟨false, fun h => absurd h (by decide), fun _ => e1⟩
  obtain ⟨good, hmo1, hmo2⟩ := hmo
  have Hno2 := Lib.hid hno2; have HJ2 := Lib.hid hJ2; have HV2 := Lib.hid hV2; have HK2 := Lib.hid hK2; have Hmo1 := Lib.hid hmo1; have Hmo2 := Lib.hid hmo2
  clear hno2 hJ2 hV2 hK2 hmo1 hmo2
  go_wp2_with fail
  go_loopw [47] (fun x wr => ∃ k : Nat, k ≤ ln ∧ x = .int .i64 k ∧ J k wr ∧ NetO wr w.heap.size net F sz P q ∧ Below V.heap.size V wr ∧ Keep G w wr ∧ (good = true → MapO w.heap.size wr pl n (.slice Lv n lc))) (fun x _ => ln - (intOf x).toNat)
  case atStart => exact ⟨0, Nat.zero_le _, rfl, HJ2.out, Hno2.out, HV2.out, HK2.out, fun h => (Hmo1.out h).1⟩
  case round =>
    obtain ⟨k, hk, rfl, hJk, hnk, hVk, hKk, hMk⟩ := hrel
    by_cases hlt : k < ln
    · have hgt : good = true := by
        cases hgg : good with
        | true => rfl
        | false => have := Hmo2.out hgg; omega
      have hlnn := (Hmo1.out hgt).2.1
      have hall := (Hmo1.out hgt).2.2
      have hM := hMk hgt
      have hkn : k < n := by omega
      obtain ⟨x, hx⟩ : ∃ x, pl[k]? = some x := ⟨_, List.getElem?_eq_getElem (by rw [Hpl.out]; exact hkn)⟩
      obtain ⟨b', o, A1, c1, A2, c2, rfl, hbl', p1, p2, r1, r2⟩ := ex_cells (hM.rd Hpl.out) hx
      have hcc := fun w' (q' : Below wr.heap.size wr w') => Hcl.out k x net A1 c1 A2 c2 w' hall hkn hx ((hnk.below q').at (HF.out.below (hVk.trans (q'.mono hVk.size))) HGZ.out HPc.out) (r1.below q') (r2.below q') (HJ.out _ _ _ hJk q')
      obtain ⟨n1, hn1⟩ : ∃ n1, x.1.length = n1 := ⟨_, rfl⟩
      obtain ⟨n2, hn2⟩ : ∃ n2, x.2.length = n2 := ⟨_, rfl⟩
      rw [hn1] at p1 hcc; rw [hn2] at p2 hcc
      have Hcc := Lib.hid hcc; have HNk := Lib.hid hnk; have HVk := Lib.hid hVk; have HKk := Lib.hid hKk; have HMk := Lib.hid hM; have Hgt := Lib.hid hgt
      clear hcc hnk hVk hKk hM hMk hJk hx r1 r2 hn1 hn2 hgt hlnn hall
      have heg := Heg.out
      go_wp2_with fail
      clear heg
      refine (Hcc.out _ ?_).mono ?_
      · (focus (repeat' (first | (with_reducible exact Below.refl _ _) | (with_reducible assumption) | (with_reducible refine Below.setCell ?_ ?_ _) | (with_reducible refine Below.alloc ?_ ?_ _) | (with_reducible refine below_drewN ?_ _) | (with_reducible refine Below.drew ?_) | (with_reducible exact Nat.le_refl _) | omega | (simp; done) | (simp; omega))))
      rintro e w5 ⟨rfl, hJ5, hK5⟩
      have hba : Below wr.heap.size wr (wr.alloc (.cells #[.slice A1 n1 c1, .slice A2 n2 c2] 64)) := (Below.refl _ _).alloc (Nat.le_refl _) _
      have hn5 := (HNk.out.below hba).keep hK5 HG1.out
      have hV5 : Below V.heap.size V w5 := (HVk.out.trans (hba.mono HVk.out.size)).trans (hK5.toBelow (by have := HVk.out.size; simp; omega) (fun j hj => by have := HG2.out j hj; have := HVb.out; omega))
      have hk5 : Keep G w w5 := (HKk.out.trans (Keep.below hba)).trans hK5
      have hm5 := (HMk.out.below hba).keep hK5 HG1.out
      have HJ5 := Lib.hid hJ5; have HN5 := Lib.hid hn5; have HV5 := Lib.hid hV5; have HK5 := Lib.hid hk5; have HM5 := Lib.hid hm5
      clear hJ5 hn5 hV5 hk5 hm5 hK5 hba p1 p2
      go_wp2_with fail
      go_roundw
      case rel => exact ⟨k + 1, by omega, by go_num, HJ5.out, HN5.out, HV5.out, HK5.out, fun _ => HM5.out⟩
      case measure => simp [intOf]; omega
    · obtain rfl : ln = k := by omega
      have HJk := Lib.hid hJk; have HKk := Lib.hid hKk
      clear hJk hKk hnk hVk hMk
      go_wp2_with fail
      go_ret
      refine ⟨HKk.out, ?_⟩
      rcases Hok.out with ⟨e1, rfl, e2, _⟩ | ⟨e1, rfl, e2⟩
      · exact .inl ⟨e1, rfl, by rw [← e2]; exact HJk.out⟩
      · exact .inr ⟨e1, rfl, by rw [← e2]; exact HJk.out⟩
end Go.Proofs.YtfiojofcafjfeaaGreat
