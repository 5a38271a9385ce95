/- The walk of shape.New. The walks of part.Count and Blocks. No condition. -/
import Derived.Test.YtfiojofcafjfeaaGreatJ05
import Derived.Test.YtfiojofcafjfeaaGreatJ15
import Derived.Test.YtfiojofcafjfeaaGreatJ02
import Derived.Test.YtfiojofcafjfeaaGreatJ08
set_option linter.unusedSimpArgs false
set_option linter.unusedVariables false
namespace Go.Proofs.YtfiojofcafjfeaaGreat
open Go.RowKit

theorem top_shape {T : TypeId} {B : Nat} {u v : World} {b : Nat} {sz : List Int} (h : ShapeAt T (topW B u) b sz) (hv : Agr B u v) : ShapeAt T v b sz := by
  obtain ⟨A1, c1, A2, c2, A3, c3, h0, h1, h2, h3⟩ := h
  exact ⟨A1, c1, A2, c2, A3, c3, top_heap h0 hv, top_rd h1 hv, top_rd h2 hv, top_rd h3 hv⟩

theorem et_rngs : ElemT Tryz.prog 136 140 (.agg #[.int .i64 0, .int .i64 0]) 2 16 := ⟨Tryz.underlying136, info_parts (by kernel_rfl), rfl, by decide⟩

/-- Where the loop of New has come to. -/
def NewI (sz : List Int) (x0 : Value) (P S : Nat) (k : Nat) (w0 w : World) : Prop :=
  ∃ A1 c1 A2 c2, w.heap[P]? = some (.cells #[.pointer (some ⟨S, 0, none⟩)] 97 (0, 0)) ∧ w.heap[S]? = some (.cells #[x0, .slice A1 k c1, .slice A2 k c2, .int .i64 (cntN sz k : Int)] 138 (0, 0)) ∧
    w.ownsRow S 140 2 (.slice A1 k c1) k (wVals sz k) ∧ w.ownsRow S 140 2 (.slice A2 k c2) k (bVals sz k) ∧ (∀ i, (Value.slice A1 k c1).ownBlock = some i → (Value.slice A2 k c2).ownBlock ≠ some i) ∧ Below S w0 w

theorem snew_short (A : Option Addr) (sz : List Int) (c : Nat) (w : World) (hc : sz.length ≤ c) (hm : c ≤ 9223372036854775807) (h : ¬ (2 ≤ sz.length ∧ sz.length ≤ 16)) :
    Calls Tryz.prog 46 #[.slice A sz.length c] w fun e w' => e = .returned (.tuple #[.pointer none, .int .i64 5]) ∧ w = w' := by
  by_cases h1 : sz.length < 2
  · go_enter Tryz.func46, Tryz.ntmps46
    go_wp2
    go_ret2
    exact ⟨rfl, rfl⟩
  · have h2 : 16 < sz.length := by omega
    go_enter Tryz.func46, Tryz.ntmps46
    go_wp2
    go_ret2
    exact ⟨rfl, rfl⟩

theorem snew_wrong (A : Option Addr) (sz : List Int) (c : Nat) (w : World) (hA : Rd w A (nums .i64 sz)) (hc : sz.length ≤ c) (hm : c ≤ 9223372036854775807) (h : 2 ≤ sz.length ∧ sz.length ≤ 16) (hb : ¬ ∀ k, k < sz.length → 1 ≤ nth sz k ∧ nth sz k ≤ 1048576) :
    Calls Tryz.prog 46 #[.slice A sz.length c] w fun e w' => e = .returned (.tuple #[.pointer none, .int .i64 5]) ∧ w = w' := by
  obtain ⟨h1, h2⟩ := h
  have hct := contains_yes A sz c w hA (by omega) hb
  have Hct := Lib.hid hct; clear hct hb hA
  go_enter Tryz.func46, Tryz.ntmps46
  go_wp2_with fail
  refine Hct.out.mono ?_
  rintro e w' ⟨rfl, rfl⟩
  go_wp2
  go_ret2
  exact ⟨rfl, rfl⟩

set_option maxHeartbeats 1000000 in
theorem snew_rightT (A : Option Addr) (sz : List Int) (c : Nat) (w : World) (hA : Rd w A (nums .i64 sz)) (hc : sz.length ≤ c) (hm : c ≤ 9223372036854775807) (h : RightSz sz) :
    Calls Tryz.prog 46 #[.slice A sz.length c] w fun e w' => Below w.heap.size w w' ∧ ((1048576 < cntN sz (sz.length - 1) ∧ e = .returned (.tuple #[.pointer none, .int .i64 4])) ∨
      (cntN sz (sz.length - 1) ≤ 1048576 ∧ ∃ b, e = .returned (.tuple #[.pointer (some ⟨b, 0, none⟩), .int .i64 0]) ∧ ShapeAt 138 (topW w.heap.size w') b sz ∧ w.heap.size ≤ b)) := by
  obtain ⟨b, o, rfl, _⟩ := hA.num (show 0 < sz.length by have := h.1.1; omega)
  have hct := contains_no (some ⟨b, o, none⟩) sz c w hA (by have := h.1.2; omega) h.2
  have hcl := iclone_any (some ⟨b, o, none⟩) sz c w hA (by have := h.1.2; omega)
  obtain ⟨n, hn⟩ : ∃ n, sz.length = n := ⟨_, rfl⟩
  obtain ⟨h1, h2⟩ := h.1
  rw [hn] at h1 h2 hct hcl hc ⊢
  have hc1 : ¬ (c = 1) := by omega
  have hc2 : 1 ≤ c := by omega
  have Hct := Lib.hid hct; have Hcl := Lib.hid hcl; have HA := Lib.hid hA; have HR := Lib.hid h; have Hn := Lib.hid hn
  clear hct hcl hA h hn
  go_enter Tryz.func46, Tryz.ntmps46
  go_wp2_with fail
  refine Hct.out.mono ?_
  rintro e w' ⟨rfl, rfl⟩
  go_wp2_with fail
  refine Hcl.out.mono ?_
  rintro e w1 ⟨v, rfl, hown, hb⟩
  obtain ⟨Ac, cc, rfl, hcc⟩ := own_form hown
  have Hown := Lib.hid hown; have Hb := Lib.hid hb; have Hcc := Lib.hid hcc; clear hown hb hcc
  go_wp2_with fail
  go_loopw [30] (fun i wr => ∃ k : Nat, k ≤ n - 1 ∧ i = .int .i64 k ∧ NewI sz (.slice Ac n cc) (w1.heap.size + 1) w1.heap.size k w1 wr) (fun i _ => n - (intOf i).toNat)
  case atStart =>
    refine ⟨0, Nat.zero_le _, rfl, none, 0, none, 0, ?_, ?_, World.ownsRow_nil _ _ _ _, World.ownsRow_nil _ _ _ _, (fun i hi => by cases hi), ?_⟩
    · have := heap_alloc_new (w1.alloc (.cells #[.slice Ac n cc, .slice none 0 0, .slice none 0 0, .int .i64 0] 138)) (.cells #[.pointer (some ⟨w1.heap.size, 0, none⟩)] 97)
      simpa using this
    · exact (Below.heap_alloc _ _ _ (by simp)).trans (heap_alloc_new w1 _)
    · (focus (repeat' (first | (with_reducible exact Below.refl _ _) | (with_reducible assumption) | (with_reducible refine Below.setCell ?_ ?_ _) | (with_reducible refine Below.alloc ?_ ?_ _) | (with_reducible refine below_drewN ?_ _) | (with_reducible refine Below.drew ?_) | (with_reducible exact Nat.le_refl _) | omega | (simp; done) | (simp; omega))))
  case round =>
    obtain ⟨k, hk, rfl, A1, c1, A2, c2, hP, hS, ho1, ho2, hne, hW⟩ := hrel
    have hkn : k < sz.length := by rw [Hn.out]; omega
    have hcN := HR.out.bound hkn
    have x0 := cell_of_row wr _ 0 _ _ _ hP
    have xf := fun j => frozen_of_row wr _ j _ _ hP
    have s0 := cell_of_row wr _ 0 _ _ _ hS
    have s1 := cell_of_row wr _ 1 _ _ _ hS
    have s2 := cell_of_row wr _ 2 _ _ _ hS
    have s3 := cell_of_row wr _ 3 _ _ _ hS
    have sf := fun j => frozen_of_row wr _ j _ _ hS
    have hPl := lt_of_block hP
    have hSl := lt_of_block hS
    have HP := Lib.hid hP; have HS := Lib.hid hS; have HO1 := Lib.hid ho1; have HO2 := Lib.hid ho2; have HN := Lib.hid hne; have HW := Lib.hid hW; clear hP hS ho1 ho2 hne hW
    by_cases hlt : k < n - 1
    · have hkn1 : k + 1 < sz.length := by rw [Hn.out]; omega
      have hmul := HR.out.mul hkn1
      have z0 := HR.out.at hkn
      have z1 := HR.out.at hkn1
      obtain ⟨_, _, e', p0⟩ := HA.out.num hkn
      injection e' with e'; injection e' with e1 e2 _; subst e1; subst e2
      obtain ⟨_, _, e', p1⟩ := HA.out.num hkn1
      injection e' with e'; injection e' with e1 e2 _; subst e1; subst e2
      have hb0 : b < w.heap.size := lt_of_cell p0
      have hbw1 : b < w1.heap.size := by have := Hb.out.size; omega
      have p0r := ((Hb.out.trans (HW.out.mono Hb.out.size)).cell (p := ⟨b, o + k, none⟩) hb0).trans p0
      have p1r := ((Hb.out.trans (HW.out.mono Hb.out.size)).cell (p := ⟨b, o + (k + 1), none⟩) hb0).trans p1
      rw [z0.2.2] at p0r
      rw [z1.2.2, show o + (k + 1) = o + 1 + k by omega] at p1r
      have hmid : midN sz k = cntN sz k + szN sz (k + 1) * szN sz k := rfl
      obtain ⟨p, hp⟩ : ∃ p, szN sz (k + 1) * szN sz k = p := ⟨_, rfl⟩
      rw [hp] at hmul hmid
      have hnx := fun W (h1 : W.heap[w1.heap.size + 1]? = _) (h2 : W.heap[w1.heap.size]? = _) => next_any p (cntN sz k) (w1.heap.size + 1) w1.heap.size (.slice Ac n cc) (.slice A1 k c1) (.slice A2 k c2) W h1 h2 hcN (by omega)
      rw [← hmid] at hnx
      have hpr : (szN sz (k + 1) : Int) * (szN sz k : Int) = (p : Int) := by rw [← Int.natCast_mul, hp]
      have hpw : IntKind.i64.wrap (p : Int) = (p : Int) := IntWalk.i64_in _ (by omega)
      have Hnx := Lib.hid hnx; have Hmid := Lib.hid hmid; clear hnx p0 p1 z0 z1 hmid
      have hki : (k : Int) < n := by omega
      go_wp2_with fail
      have hSw : (fun w' : World => w'.cell? ⟨w1.heap.size + 1, 0, none⟩ = some (.pointer (some ⟨w1.heap.size, 0, none⟩)) ∧ w'.cell? ⟨w1.heap.size, 1, none⟩ = some (.slice A1 k c1) ∧ w'.cell? ⟨b, o + k, none⟩ = some (.int .i64 (szN sz k))) wr.drew := ⟨x0, s1, p0r⟩
      refine wp_region_X 15 (fun w' : World => w'.cell? ⟨w1.heap.size + 1, 0, none⟩ = some (.pointer (some ⟨w1.heap.size, 0, none⟩)) ∧ w'.cell? ⟨w1.heap.size, 1, none⟩ = some (.slice A1 k c1) ∧ w'.cell? ⟨b, o + k, none⟩ = some (.int .i64 (szN sz k))) (by kernel_rfl) ?_
      refine wpAnyX_take (i := 0) (v := ?_) rfl (by kernel_rfl) (by decide) (by kernel_rfl) (by kernel_rfl) (by kernel_rfl) (by kernel_rfl) (fun _ _ _ h => h) (Or.inl ⟨by rfl, ?_⟩) hSw ?_
      rotate_left
      · intro w9 hS9; (try dsimp only at hS9); obtain ⟨s1, s2, s3⟩ := hS9; go_simp; (try with_reducible rfl)
      simp only [List.getElem_toArray, List.getElem_cons_succ, List.getElem_cons_zero, Act.put, List.setIfInBounds_toArray, List.set_cons_zero, List.set_cons_succ]
      refine wpAnyX_take (i := 1) (v := ?_) rfl (by kernel_rfl) (by decide) (by kernel_rfl) (by kernel_rfl) (by kernel_rfl) (by kernel_rfl) (fun _ _ _ h => h) (Or.inl ⟨by rfl, ?_⟩) hSw ?_
      rotate_left
      · intro w9 hS9; (try dsimp only at hS9); obtain ⟨s1, s2, s3⟩ := hS9; go_simp; (try with_reducible rfl)
      simp only [List.getElem_toArray, List.getElem_cons_succ, List.getElem_cons_zero, Act.put, List.setIfInBounds_toArray, List.set_cons_zero, List.set_cons_succ]
      refine wpAnyX_take (i := 2) (v := ?_) rfl (by kernel_rfl) (by decide) (by kernel_rfl) (by kernel_rfl) (by kernel_rfl) (by kernel_rfl) (fun _ _ _ h => h) (Or.inl ⟨by rfl, ?_⟩) hSw ?_
      rotate_left
      · intro w9 hS9; (try dsimp only at hS9); obtain ⟨s1, s2, s3⟩ := hS9; go_simp; (try with_reducible rfl)
      simp only [List.getElem_toArray, List.getElem_cons_succ, List.getElem_cons_zero, Act.put, List.setIfInBounds_toArray, List.set_cons_zero, List.set_cons_succ]
      refine wpAnyX_take (i := 3) (v := ?_) rfl (by kernel_rfl) (by decide) (by kernel_rfl) (by kernel_rfl) (by kernel_rfl) (by kernel_rfl) (fun _ _ _ h => h) (Or.inl ⟨by rfl, ?_⟩) hSw ?_
      rotate_left
      · intro w9 hS9; (try dsimp only at hS9); obtain ⟨s1, s2, s3⟩ := hS9; go_simp; (try with_reducible rfl)
      simp only [List.getElem_toArray, List.getElem_cons_succ, List.getElem_cons_zero, Act.put, List.setIfInBounds_toArray, List.set_cons_zero, List.set_cons_succ]
      refine wpAnyX_take (i := 4) (v := ?_) rfl (by kernel_rfl) (by decide) (by kernel_rfl) (by kernel_rfl) (by kernel_rfl) (by kernel_rfl) (fun _ _ _ h => h) (Or.inl ⟨by rfl, ?_⟩) hSw ?_
      rotate_left
      · intro w9 hS9; (try dsimp only at hS9); obtain ⟨s1, s2, s3⟩ := hS9; go_simp; (try with_reducible rfl)
      simp only [List.getElem_toArray, List.getElem_cons_succ, List.getElem_cons_zero, Act.put, List.setIfInBounds_toArray, List.set_cons_zero, List.set_cons_succ]
      refine wpAnyX_take (i := 5) (v := ?_) rfl (by kernel_rfl) (by decide) (by kernel_rfl) (by kernel_rfl) (by kernel_rfl) (by kernel_rfl) (fun _ _ _ h => h) (Or.inl ⟨by rfl, ?_⟩) hSw ?_
      rotate_left
      · intro w9 hS9; (try dsimp only at hS9); obtain ⟨s1, s2, s3⟩ := hS9; go_simp; (try with_reducible rfl)
      simp only [List.getElem_toArray, List.getElem_cons_succ, List.getElem_cons_zero, Act.put, List.setIfInBounds_toArray, List.set_cons_zero, List.set_cons_succ]
      refine wpAnyX_take (i := 6) (v := ?_) rfl (by kernel_rfl) (by decide) (by kernel_rfl) (by kernel_rfl) (by kernel_rfl) (by kernel_rfl) (fun _ _ _ h => h) (Or.inl ⟨by rfl, ?_⟩) hSw ?_
      rotate_left
      · intro w9 hS9; (try dsimp only at hS9); obtain ⟨s1, s2, s3⟩ := hS9; go_simp; (try with_reducible rfl)
      simp only [List.getElem_toArray, List.getElem_cons_succ, List.getElem_cons_zero, Act.put, List.setIfInBounds_toArray, List.set_cons_zero, List.set_cons_succ]
      refine wpAnyX_take (i := 7) (v := ?_) rfl (by kernel_rfl) (by decide) (by kernel_rfl) (by kernel_rfl) (by kernel_rfl) (by kernel_rfl) (fun _ _ _ h => h) (Or.inl ⟨by rfl, ?_⟩) hSw ?_
      rotate_left
      · intro w9 hS9; (try dsimp only at hS9); obtain ⟨s1, s2, s3⟩ := hS9; go_simp; (try with_reducible rfl)
      simp only [List.getElem_toArray, List.getElem_cons_succ, List.getElem_cons_zero, Act.put, List.setIfInBounds_toArray, List.set_cons_zero, List.set_cons_succ]
      refine wpAnyX_take (i := 8) (v := ?_) rfl (by kernel_rfl) (by decide) (by kernel_rfl) (by kernel_rfl) (by kernel_rfl) (by kernel_rfl) (fun _ _ _ h => h) (Or.inl ⟨by rfl, ?_⟩) hSw ?_
      rotate_left
      · intro w9 hS9; (try dsimp only at hS9); obtain ⟨s1, s2, s3⟩ := hS9; go_simp; (try with_reducible rfl)
      simp only [List.getElem_toArray, List.getElem_cons_succ, List.getElem_cons_zero, Act.put, List.setIfInBounds_toArray, List.set_cons_zero, List.set_cons_succ]
      refine wpAnyX_take (i := 9) (v := ?_) rfl (by kernel_rfl) (by decide) (by kernel_rfl) (by kernel_rfl) (by kernel_rfl) (by kernel_rfl) (fun _ _ _ h => h) (Or.inl ⟨by rfl, ?_⟩) hSw ?_
      rotate_left
      · intro w9 hS9; (try dsimp only at hS9); obtain ⟨s1, s2, s3⟩ := hS9; go_simp; (try with_reducible rfl)
      simp only [List.getElem_toArray, List.getElem_cons_succ, List.getElem_cons_zero, Act.put, List.setIfInBounds_toArray, List.set_cons_zero, List.set_cons_succ]
      refine wpAnyX_take (i := 10) (v := ?_) rfl (by kernel_rfl) (by decide) (by kernel_rfl) (by kernel_rfl) (by kernel_rfl) (by kernel_rfl) (fun _ _ _ h => h) (Or.inl ⟨by rfl, ?_⟩) hSw ?_
      rotate_left
      · intro w9 hS9; (try dsimp only at hS9); obtain ⟨s1, s2, s3⟩ := hS9; go_simp; (try with_reducible rfl)
      simp only [List.getElem_toArray, List.getElem_cons_succ, List.getElem_cons_zero, Act.put, List.setIfInBounds_toArray, List.set_cons_zero, List.set_cons_succ]
      refine wpAnyX_take (i := 11) (v := ?_) rfl (by kernel_rfl) (by decide) (by kernel_rfl) (by kernel_rfl) (by kernel_rfl) (by kernel_rfl) (fun _ _ _ h => h) (Or.inl ⟨by rfl, ?_⟩) hSw ?_
      rotate_left
      · intro w9 hS9; (try dsimp only at hS9); obtain ⟨s1, s2, s3⟩ := hS9; go_simp; (try with_reducible rfl)
      simp only [List.getElem_toArray, List.getElem_cons_succ, List.getElem_cons_zero, Act.put, List.setIfInBounds_toArray, List.set_cons_zero, List.set_cons_succ]
      refine wpAnyX_ready (rs := [12]) (by kernel_rfl) (by simp) ?_
      refine AllReadyX.cons rfl (fun K hK => ?_) AllReadyX.nil
      simp only [List.getElem_toArray, List.getElem_cons_succ, List.getElem_cons_zero]
      go_simp
      refine (Hnx.out wr.drew HP.out HS.out).mono ?_
      rintro e w3 ⟨rfl, hS3, hK3⟩
      have g0 := hK3.cell (p := ⟨w1.heap.size + 1, 0, none⟩) x0 (by simp)
      have g1 := cell_of_row w3 _ 1 _ _ _ hS3
      have g2 := hK3.cell (p := ⟨b, o + k, none⟩) p0r (by simp; omega)
      have l0 : w1.heap.size + 1 < w3.heap.size := lt_of_cell g0
      have l1 : w1.heap.size < w3.heap.size := lt_of_cell g1
      have l2 : b < w3.heap.size := lt_of_cell g2
      have HS3 := Lib.hid hS3; have HK3 := Lib.hid hK3; clear hS3 hK3
      dsimp only
      refine hK.out _ _ ⟨g0, g1, g2⟩ (fun hSw => ?_)
      clear hK K
      refine wpAnyX_ready (rs := [13]) (by kernel_rfl) (by simp) ?_
      refine AllReadyX.cons rfl (fun K hK => ?_) AllReadyX.nil
      simp only [List.getElem_toArray, List.getElem_cons_succ, List.getElem_cons_zero]
      go_simp
      refine hK.out _ _ ⟨cell_alloc g0 _, cell_alloc g1 _, cell_alloc g2 _⟩ (fun hSw => ?_)
      clear hK K
      have hO3 := HK3.out.own (own_drewN HO1.out 1) (fun i hi e => block_notrow HS.out (by decide) HO1.out (by rw [hi, e]))
      have hP3 := (HK3.out.block _ (lt_of_block HP.out) (by omega)).trans HP.out
      have HO3 := Lib.hid hO3; have HP3 := Lib.hid hP3; clear hO3 hP3
      refine wpAnyX_ready (rs := [14]) (by kernel_rfl) (by simp) ?_
      refine AllReadyX.cons rfl (fun K hK => ?_) AllReadyX.nil
      simp only [List.getElem_toArray, List.getElem_cons_succ, List.getElem_cons_zero]
      refine step_appX et_rngs (.tmp 39) (.tmp 48) rfl rfl w1.heap.size (.slice A1 k c1) k (wVals sz k) rfl (HO3.out.alloc _) (some ⟨w3.heap.size, 0, none⟩) 1 1 [.int .i64 (cntN sz k : Int), .int .i64 (midN sz k : Int)] rfl (rd_newN w3 _ _ _ rfl) rfl (by simp [Value.oneCell']) (by omega) (by unfold maxLen; omega) (by simp; omega) ?_
      intro A4 c4 w4 ho4 hb4 hg4 hv4
      have hP4 := block_grown HP3.out (by decide) HO3.out hg4
      have hS4 := block_grown HS3.out (by decide) HO3.out hg4
      have i0 := cell_of_row w4 _ 0 _ _ _ hP4
      have i1 := cell_of_row w4 _ 1 _ _ _ hS4
      have i2 := cell_grown g2 hbw1 HO3.out hg4
      have i3 := frozen_of_row w4 _ 1 _ _ hS4
      have HO4 := Lib.hid ho4; have HP4 := Lib.hid hP4; have HS4 := Lib.hid hS4; have Hg4 := Lib.hid hg4; have Hv4 := Lib.hid hv4; have Hb4 := Lib.hid hb4; clear ho4 hP4 hS4 hg4 hv4 hb4
      dsimp only
      refine hK.out _ _ ⟨i0, i1, i2⟩ (fun hSw => ?_)
      clear hK K hSw
      refine wpAnyX_tail (by rfl) (by kernel_rfl) ?_
      simp only [List.drop_succ_cons, List.drop_zero]
      go_wp2_with fail
      obtain ⟨h2o, h2n⟩ := own_other (HK3.out.own (own_drewN HO2.out 1) (fun i hi e => block_notrow HS.out (by decide) HO2.out (by rw [hi, e]))) HN.out Hg4.out Hv4.out
      have hP5 := (Below.heap_setCell w4 ⟨w1.heap.size, 1, none⟩ (.slice A4 (k + 1) c4) (w1.heap.size + 1) (by simp)).trans HP4.out
      have hS5 := heap_setCell_same w4 w1.heap.size 1 _ _ (.slice A4 (k + 1) c4) HS4.out
      have hk5 : Keep (fun i => i = w1.heap.size) w4 (w4.setCell ⟨w1.heap.size, 1, none⟩ (.slice A4 (k + 1) c4)) := Keep.setCell (S := fun i => i = w1.heap.size) (Keep.refl _ _) ⟨w1.heap.size, 1, none⟩ (.inr rfl) _
      have ho5 := hk5.own HO4.out (fun i hi e => block_notrow HS4.out (by decide) HO4.out (by rw [hi, e]))
      have ho25 := hk5.own h2o (fun i hi e => block_notrow HS4.out (by decide) h2o (by rw [hi, e]))
      have hW5 : Below w1.heap.size w1 (w4.setCell ⟨w1.heap.size, 1, none⟩ (.slice A4 (k + 1) c4)) :=
        ((HW.out.drew.trans ((HK3.out.toBelow (B := w1.heap.size) (by simp; omega) (fun i hi => by omega)))).trans ((((Below.refl _ w3).alloc (by omega) _)).trans Hb4.out)).setCell (by simp) _
      rw [← wVals_succ] at ho5
      obtain ⟨w5, hw5⟩ : ∃ w5, w5 = w4.setCell ⟨w1.heap.size, 1, none⟩ (.slice A4 (k + 1) c4) := ⟨_, rfl⟩
      rw [← hw5] at hP5 hS5 ho5 ho25 hW5 ⊢
      clear hw5 hk5 h2o i0 i1 i2 i3 g0 g1 g2 l0 l1 l2 x0 xf s0 s1 s2 s3 sf
      have x0 := cell_of_row w5 _ 0 _ _ _ hP5
      have xf := fun j => frozen_of_row w5 _ j _ _ hP5
      have y2 := cell_of_row w5 _ 2 _ _ _ hS5
      have hm2 := midN_eq sz k
      have z1 := (HR.out.at hkn1).2.1
      have hcN1 := HR.out.bound hkn1
      have hnx := fun W (h1 : W.heap[w1.heap.size + 1]? = _) (h2 : W.heap[w1.heap.size]? = _) => next_any (szN sz (k + 1)) (midN sz k) (w1.heap.size + 1) w1.heap.size (.slice Ac n cc) (.slice A4 (k + 1) c4) (.slice A2 k c2) W h1 h2 (by omega) (by omega)
      rw [hm2] at hnx
      have hPl := lt_of_block hP5
      have hSl := lt_of_block hS5
      have Hn5 := Lib.hid hnx; have HP5 := Lib.hid hP5; have HS5 := Lib.hid hS5; have HO5 := Lib.hid ho5; have HO25 := Lib.hid ho25; have HN5 := Lib.hid h2n; have HW5 := Lib.hid hW5; have Hm2 := Lib.hid hm2
      clear hnx hP5 hS5 ho5 ho25 h2n hW5 hm2 Hnx HK3 HS3 HO3 HP3 HO4 HP4 HS4 Hg4 Hv4 Hb4 hpr hpw
      go_wp2_with fail
      have hSw : (fun w' : World => w'.cell? ⟨w1.heap.size + 1, 0, none⟩ = some (.pointer (some ⟨w1.heap.size, 0, none⟩)) ∧ w'.cell? ⟨w1.heap.size, 2, none⟩ = some (.slice A2 k c2)) w5.drew := ⟨x0, y2⟩
      refine wp_region_X 10 (fun w' : World => w'.cell? ⟨w1.heap.size + 1, 0, none⟩ = some (.pointer (some ⟨w1.heap.size, 0, none⟩)) ∧ w'.cell? ⟨w1.heap.size, 2, none⟩ = some (.slice A2 k c2)) (by kernel_rfl) ?_
      refine wpAnyX_take (i := 0) (v := ?_) rfl (by kernel_rfl) (by decide) (by kernel_rfl) (by kernel_rfl) (by kernel_rfl) (by kernel_rfl) (fun _ _ _ h => h) (Or.inl ⟨by rfl, ?_⟩) hSw ?_
      rotate_left
      · intro w9 hS9; (try dsimp only at hS9); obtain ⟨s1, s2⟩ := hS9; go_simp; (try with_reducible rfl)
      simp only [List.getElem_toArray, List.getElem_cons_succ, List.getElem_cons_zero, Act.put, List.setIfInBounds_toArray, List.set_cons_zero, List.set_cons_succ]
      refine wpAnyX_take (i := 1) (v := ?_) rfl (by kernel_rfl) (by decide) (by kernel_rfl) (by kernel_rfl) (by kernel_rfl) (by kernel_rfl) (fun _ _ _ h => h) (Or.inl ⟨by rfl, ?_⟩) hSw ?_
      rotate_left
      · intro w9 hS9; (try dsimp only at hS9); obtain ⟨s1, s2⟩ := hS9; go_simp; (try with_reducible rfl)
      simp only [List.getElem_toArray, List.getElem_cons_succ, List.getElem_cons_zero, Act.put, List.setIfInBounds_toArray, List.set_cons_zero, List.set_cons_succ]
      refine wpAnyX_take (i := 2) (v := ?_) rfl (by kernel_rfl) (by decide) (by kernel_rfl) (by kernel_rfl) (by kernel_rfl) (by kernel_rfl) (fun _ _ _ h => h) (Or.inl ⟨by rfl, ?_⟩) hSw ?_
      rotate_left
      · intro w9 hS9; (try dsimp only at hS9); obtain ⟨s1, s2⟩ := hS9; go_simp; (try with_reducible rfl)
      simp only [List.getElem_toArray, List.getElem_cons_succ, List.getElem_cons_zero, Act.put, List.setIfInBounds_toArray, List.set_cons_zero, List.set_cons_succ]
      refine wpAnyX_take (i := 3) (v := ?_) rfl (by kernel_rfl) (by decide) (by kernel_rfl) (by kernel_rfl) (by kernel_rfl) (by kernel_rfl) (fun _ _ _ h => h) (Or.inl ⟨by rfl, ?_⟩) hSw ?_
      rotate_left
      · intro w9 hS9; (try dsimp only at hS9); obtain ⟨s1, s2⟩ := hS9; go_simp; (try with_reducible rfl)
      simp only [List.getElem_toArray, List.getElem_cons_succ, List.getElem_cons_zero, Act.put, List.setIfInBounds_toArray, List.set_cons_zero, List.set_cons_succ]
      refine wpAnyX_take (i := 4) (v := ?_) rfl (by kernel_rfl) (by decide) (by kernel_rfl) (by kernel_rfl) (by kernel_rfl) (by kernel_rfl) (fun _ _ _ h => h) (Or.inl ⟨by rfl, ?_⟩) hSw ?_
      rotate_left
      · intro w9 hS9; (try dsimp only at hS9); obtain ⟨s1, s2⟩ := hS9; go_simp; (try with_reducible rfl)
      simp only [List.getElem_toArray, List.getElem_cons_succ, List.getElem_cons_zero, Act.put, List.setIfInBounds_toArray, List.set_cons_zero, List.set_cons_succ]
      refine wpAnyX_take (i := 5) (v := ?_) rfl (by kernel_rfl) (by decide) (by kernel_rfl) (by kernel_rfl) (by kernel_rfl) (by kernel_rfl) (fun _ _ _ h => h) (Or.inl ⟨by rfl, ?_⟩) hSw ?_
      rotate_left
      · intro w9 hS9; (try dsimp only at hS9); obtain ⟨s1, s2⟩ := hS9; go_simp; (try with_reducible rfl)
      simp only [List.getElem_toArray, List.getElem_cons_succ, List.getElem_cons_zero, Act.put, List.setIfInBounds_toArray, List.set_cons_zero, List.set_cons_succ]
      refine wpAnyX_take (i := 6) (v := ?_) rfl (by kernel_rfl) (by decide) (by kernel_rfl) (by kernel_rfl) (by kernel_rfl) (by kernel_rfl) (fun _ _ _ h => h) (Or.inl ⟨by rfl, ?_⟩) hSw ?_
      rotate_left
      · intro w9 hS9; (try dsimp only at hS9); obtain ⟨s1, s2⟩ := hS9; go_simp; (try with_reducible rfl)
      simp only [List.getElem_toArray, List.getElem_cons_succ, List.getElem_cons_zero, Act.put, List.setIfInBounds_toArray, List.set_cons_zero, List.set_cons_succ]
      refine wpAnyX_ready (rs := [7]) (by kernel_rfl) (by simp) ?_
      refine AllReadyX.cons rfl (fun K hK => ?_) AllReadyX.nil
      simp only [List.getElem_toArray, List.getElem_cons_succ, List.getElem_cons_zero]
      go_simp
      refine (Hn5.out w5.drew HP5.out HS5.out).mono ?_
      rintro e w6 ⟨rfl, hS6, hK6⟩
      have g0 := hK6.cell (p := ⟨w1.heap.size + 1, 0, none⟩) x0 (by simp)
      have g1 := cell_of_row w6 _ 2 _ _ _ hS6
      have l0 : w1.heap.size + 1 < w6.heap.size := lt_of_cell g0
      have HS6 := Lib.hid hS6; have HK6 := Lib.hid hK6; clear hS6 hK6
      dsimp only
      refine hK.out _ _ ⟨g0, g1⟩ (fun hSw => ?_)
      clear hK K
      refine wpAnyX_ready (rs := [8]) (by kernel_rfl) (by simp) ?_
      refine AllReadyX.cons rfl (fun K hK => ?_) AllReadyX.nil
      simp only [List.getElem_toArray, List.getElem_cons_succ, List.getElem_cons_zero]
      go_simp
      refine hK.out _ _ ⟨cell_alloc g0 _, cell_alloc g1 _⟩ (fun hSw => ?_)
      clear hK K
      have hO6 := HK6.out.own (own_drewN HO25.out 1) (fun i hi e => block_notrow HS5.out (by decide) HO25.out (by rw [hi, e]))
      have hP6 := (HK6.out.block _ (lt_of_block HP5.out) (by omega)).trans HP5.out
      have HO6 := Lib.hid hO6; have HP6 := Lib.hid hP6; clear hO6 hP6
      refine wpAnyX_ready (rs := [9]) (by kernel_rfl) (by simp) ?_
      refine AllReadyX.cons rfl (fun K hK => ?_) AllReadyX.nil
      simp only [List.getElem_toArray, List.getElem_cons_succ, List.getElem_cons_zero]
      refine step_appX et_rngs (.tmp 56) (.tmp 60) rfl rfl w1.heap.size (.slice A2 k c2) k (bVals sz k) rfl (HO6.out.alloc _) (some ⟨w6.heap.size, 0, none⟩) 1 1 [.int .i64 (midN sz k : Int), .int .i64 (cntN sz (k + 1) : Int)] rfl (rd_newN w6 _ _ _ rfl) rfl (by simp [Value.oneCell']) (by omega) (by unfold maxLen; omega) (by simp; omega) ?_
      intro A7 c7 w7 ho7 hb7 hg7 hv7
      have hP7 := block_grown HP6.out (by decide) HO6.out hg7
      have hS7 := block_grown HS6.out (by decide) HO6.out hg7
      have i0 := cell_of_row w7 _ 0 _ _ _ hP7
      have i1 := cell_of_row w7 _ 2 _ _ _ hS7
      have i3 := frozen_of_row w7 _ 2 _ _ hS7
      have HO7 := Lib.hid ho7; have HP7 := Lib.hid hP7; have HS7 := Lib.hid hS7; have Hg7 := Lib.hid hg7; have Hv7 := Lib.hid hv7; have Hb7 := Lib.hid hb7; clear ho7 hP7 hS7 hg7 hv7 hb7
      dsimp only
      refine hK.out _ _ ⟨i0, i1⟩ (fun hSw => ?_)
      clear hK K hSw
      refine wpAnyX_tail (by rfl) (by kernel_rfl) ?_
      simp only [List.drop_succ_cons, List.drop_zero]
      go_wp2_with fail
      obtain ⟨h2o, h2n⟩ := own_other (HK6.out.own (own_drewN HO5.out 1) (fun i hi e => block_notrow HS5.out (by decide) HO5.out (by rw [hi, e]))) (fun i hi e => HN5.out i e hi) Hg7.out Hv7.out
      have hP8 := (Below.heap_setCell w7 ⟨w1.heap.size, 2, none⟩ (.slice A7 (k + 1) c7) (w1.heap.size + 1) (by simp)).trans HP7.out
      have hS8 := heap_setCell_same w7 w1.heap.size 2 _ _ (.slice A7 (k + 1) c7) HS7.out
      have hk8 : Keep (fun i => i = w1.heap.size) w7 (w7.setCell ⟨w1.heap.size, 2, none⟩ (.slice A7 (k + 1) c7)) := Keep.setCell (S := fun i => i = w1.heap.size) (Keep.refl _ _) ⟨w1.heap.size, 2, none⟩ (.inr rfl) _
      have ho8 := hk8.own HO7.out (fun i hi e => block_notrow HS7.out (by decide) HO7.out (by rw [hi, e]))
      have ho28 := hk8.own h2o (fun i hi e => block_notrow HS7.out (by decide) h2o (by rw [hi, e]))
      have hW8 : Below w1.heap.size w1 (w7.setCell ⟨w1.heap.size, 2, none⟩ (.slice A7 (k + 1) c7)) :=
        ((HW5.out.drew.trans ((HK6.out.toBelow (B := w1.heap.size) (by simp; omega) (fun i hi => by omega)))).trans ((((Below.refl _ w6).alloc (by omega) _)).trans Hb7.out)).setCell (by simp) _
      rw [← bVals_succ] at ho8
      go_roundw
      case rel => exact ⟨k + 1, by omega, by go_num, A4, c4, A7, c7, hP8, hS8, ho28, ho8, fun i hi e => h2n i e hi, hW8⟩
      case measure => simp [intOf]; omega
    · obtain rfl : k = n - 1 := by omega
      have hlen : sz.length - 1 = n - 1 := by rw [Hn.out]
      have hsh : ShapeAt 138 (topW w.heap.size wr) w1.heap.size sz := by
        have hz1 := Hb.out.size
        refine ⟨Ac, cc, A1, c1, A2, c2, ?_, ?_, ?_, ?_⟩
        · rw [Hn.out, top_blk hz1]; exact HS.out
        · exact Rd.own (own_top (own_below Hown.out HW.out) (Nat.le_refl _))
        · rw [hlen]; exact Rd.own (own_top HO1.out (by omega))
        · rw [hlen]; exact Rd.own (own_top HO2.out (by omega))
      have hBel : Below w.heap.size w wr := Hb.out.trans (HW.out.mono Hb.out.size)
      have Hsh := Lib.hid hsh; have HBel := Lib.hid hBel; have Hsz := Lib.hid Hb.out.size; clear hsh hBel hlen
      by_cases hbig : 1048576 < cntN sz (n - 1)
      · have hbi : (1048576 : Int) < cntN sz (n - 1) := by omega
        go_wp2_with fail
        go_ret2
        exact ⟨HBel.out, .inl ⟨hbig, rfl⟩⟩
      · have hbi : ¬ (1048576 : Int) < cntN sz (n - 1) := by omega
        go_wp2_with fail
        go_ret2
        first | exact ⟨HBel.out, by omega, _, rfl, Hsh.out, Hsz.out⟩ | exact ⟨HBel.out, .inr ⟨by omega, _, rfl, Hsh.out, Hsz.out⟩⟩
theorem snew_right (A : Option Addr) (sz : List Int) (c : Nat) (w : World) (hA : Rd w A (nums .i64 sz)) (hc : sz.length ≤ c) (hm : c ≤ 9223372036854775807) (h : RightSz sz) :
    Calls Tryz.prog 46 #[.slice A sz.length c] w fun e w' => Below w.heap.size w w' ∧ ((1048576 < cntN sz (sz.length - 1) ∧ e = .returned (.tuple #[.pointer none, .int .i64 4])) ∨
      (cntN sz (sz.length - 1) ≤ 1048576 ∧ ∃ b, e = .returned (.tuple #[.pointer (some ⟨b, 0, none⟩), .int .i64 0]) ∧ ShapeAt 138 w' b sz ∧ w.heap.size ≤ b)) := by
  refine (snew_rightT A sz c w hA hc hm h).mono fun e w' ⟨hb, hr⟩ => ⟨hb, ?_⟩
  rcases hr with hr | ⟨h1, b, he, hs, hz⟩
  · exact .inl hr
  · exact .inr ⟨h1, b, he, top_shape hs (Agr.refl _ _), hz⟩
end Go.Proofs.YtfiojofcafjfeaaGreat
namespace Go.Proofs.YtfiojofcafjfeaaGreat
open Go.RowKit

theorem count_any (n size : Nat) (w : World) (hn : n ≤ 1048576) (hs : 1 ≤ size) (hs2 : size ≤ 1048576) :
    Calls Tryz.prog 82 #[.int .i64 n, .int .i64 size] w fun e w' => e = .returned (.int .i64 (cntQ n size : Int)) ∧ w = w' := by
  have hq : ¬ ((size : Int) < 1) := by omega
  by_cases h0 : n = 0
  · subst h0
    go_enter Tryz.func82, Tryz.ntmps82
    go_wp2
    go_ret
    exact ⟨rfl, rfl⟩
  · have hq2 : ¬ ((n : Int) < 1) := by omega
    have hq3 : (0 : Int) ≤ (n : Int) - 1 := by omega
    have he := ediv_pred n size (by omega)
    have hle := Nat.div_le_self (n - 1) size
    have hc : cntQ n size = (n - 1) / size + 1 := by unfold cntQ; rw [if_neg h0]
    rw [hc]
    obtain ⟨y, hy⟩ : ∃ y, (n - 1) / size = y := ⟨_, rfl⟩
    rw [hy] at he hle ⊢
    have htd : ((n : Int) - 1).tdiv size = y := by rw [Int.tdiv_eq_ediv_of_nonneg hq3, he]
    have Hy := Lib.hid hy; have Hc := Lib.hid hc; clear hy hc h0
    go_enter Tryz.func82, Tryz.ntmps82
    go_wp2
    go_ret
    exact ⟨rfl, rfl⟩
set_option maxHeartbeats 800000 in
theorem blocks_any (n size : Nat) (w : World) (hn : n ≤ 1048576) (hs : 1 ≤ size) (hs2 : size ≤ 1048576) :
    Calls Tryz.prog 78 #[.int .i64 n, .int .i64 size] w fun e w' => ∃ v, e = .returned v ∧ w'.ownsRow w.heap.size 140 2 v (cntQ n size) (blkVals n size (cntQ n size)) ∧ Below w.heap.size w w' := by
  have hco := count_any n size w hn hs hs2
  have hle := cntQ_le n size
  have hlt' := fun k (h : k < cntQ n size) => cntQ_lt h
  obtain ⟨m, hm⟩ : ∃ m, cntQ n size = m := ⟨_, rfl⟩
  rw [hm] at hco hle hlt' ⊢
  have Hco := Lib.hid hco; have Hlt := Lib.hid hlt'; clear hco hm hlt'
  go_enter Tryz.func78, Tryz.ntmps78
  go_wp2_with fail
  refine Hco.out.mono ?_
  rintro e w' ⟨rfl, rfl⟩
  go_wp2_with fail
  go_loopw [5, 11] (fun v x wr => ∃ k : Nat, k ≤ m ∧ x = .int .i64 k ∧ wr.ownsRow w.heap.size 140 2 v k (blkVals n size k) ∧ Below w.heap.size w wr) (fun _ x _ => m - (intOf x).toNat)
  case atStart => exact ⟨0, Nat.zero_le _, rfl, World.ownsRow_nil _ _ _ _, Below.refl _ _⟩
  case round =>
    obtain ⟨k, hk, rfl, hown, hb⟩ := hrel
    by_cases hlt : k < m
    · have hlo := Hlt.out k hlt
      obtain ⟨y, hy⟩ : ∃ y, k * size = y := ⟨_, rfl⟩
      rw [hy] at hlo
      have hmul : (k : Int) * (size : Int) = (y : Int) := by rw [← hy]; push_cast; rfl
      obtain ⟨Al, cl, rfl, _⟩ := own_form hown
      have Hy := Lib.hid hy; have Hown := Lib.hid hown; have Hb := Lib.hid hb; clear hown hb hy
      by_cases hsz : (size : Int) ≤ (n : Int) - y
      · have hsz2 : (y : Int) + size ≤ n := by omega
        go_wp2_with (at_builtin; refine wpList_push et_rngs _ rfl (.tmp 17) (.tmp 27) rfl w.heap.size (.slice Al k cl) k _ rfl Hown.out [.int .i64 (y : Int), .int .i64 ((y : Int) + size)] rfl rfl (nums_cell .i64 [_, _]) (by omega) (by unfold maxLen; omega) Hb.out.size ?_)
        intro g6 c6 w6 ho6 hb6 hg6
        have HO6 := Lib.hid ho6; have HB6 := Lib.hid (Hb.out.trans hb6)
        clear ho6 hb6 hg6
        go_wp2_with fail
        go_roundw
        case rel =>
          refine ⟨k + 1, by omega, by go_num, ?_, HB6.out⟩
          rw [blkVals_succ, Hy.out, show ((min (y + size) n : Nat) : Int) = (y : Int) + size by omega]
          exact HO6.out
        case measure => simp [intOf]; omega
      · have hsz2 : (n : Int) - y < size := by omega
        go_wp2_with (at_builtin; refine wpList_push et_rngs _ rfl (.tmp 17) (.tmp 27) rfl w.heap.size (.slice Al k cl) k _ rfl Hown.out [.int .i64 (y : Int), .int .i64 ((y : Int) + ((n : Int) - y))] rfl rfl (nums_cell .i64 [_, _]) (by omega) (by unfold maxLen; omega) Hb.out.size ?_)
        intro g6 c6 w6 ho6 hb6 hg6
        have HO6 := Lib.hid ho6; have HB6 := Lib.hid (Hb.out.trans hb6)
        clear ho6 hb6 hg6
        go_wp2_with fail
        go_roundw
        case rel =>
          refine ⟨k + 1, by omega, by go_num, ?_, HB6.out⟩
          rw [blkVals_succ, Hy.out, show ((min (y + size) n : Nat) : Int) = (y : Int) + ((n : Int) - y) by omega]
          exact HO6.out
        case measure => simp [intOf]; omega
    · obtain rfl : m = k := by omega
      have Hown := Lib.hid hown; have Hb := Lib.hid hb; clear hown hb
      go_wp2_with fail
      go_ret
      exact ⟨_, rfl, Hown.out, Hb.out⟩
end Go.Proofs.YtfiojofcafjfeaaGreat
