/- The walk of shape.New. -/
import Derived.Test.YtaccfnffmbndhaaRgn
import Derived.Test.YtaccfnffmbndhaaTop
import Derived.Test.YtaccfnffmbndhaaShapeF
import Derived.Test.YtaccfnffmbndhaaBlk
import Derived.Test.YtaccfnffmbndhaaRegX
set_option linter.unusedSimpArgs false
set_option linter.unusedVariables false
namespace Go.Proofs.Ytaccfnffmbndhaa
open Go.RowKit

theorem top_shape {T : TypeId} {B : Nat} {u v : World} {b : Nat} {sz : List Int} (h : ShapeAt T (topW B u) b sz) (hv : Agr B u v) : ShapeAt T v b sz := by
  obtain ⟨A1, c1, A2, c2, A3, c3, h0, h1, h2, h3⟩ := h
  exact ⟨A1, c1, A2, c2, A3, c3, top_heap h0 hv, top_rd h1 hv, top_rd h2 hv, top_rd h3 hv⟩

theorem et_rngs : ElemT Try.prog 45 54 (.agg #[.int .i64 0, .int .i64 0]) 2 16 := ⟨Try.underlying45, info_parts (by kernel_rfl), rfl, by decide⟩

/-- Where the loop of New has come to. -/
def NewI (sz : List Int) (x0 : Value) (P S : Nat) (k : Nat) (w0 w : World) : Prop :=
  ∃ A1 c1 A2 c2, w.heap[P]? = some (.cells #[.pointer (some ⟨S, 0, none⟩)] 69 (0, 0)) ∧ w.heap[S]? = some (.cells #[x0, .slice A1 k c1, .slice A2 k c2, .int .i64 (cntN sz k : Int)] 92 (0, 0)) ∧
    w.ownsRow S 54 2 (.slice A1 k c1) k (wVals sz k) ∧ w.ownsRow S 54 2 (.slice A2 k c2) k (bVals sz k) ∧ (∀ i, (Value.slice A1 k c1).ownBlock = some i → (Value.slice A2 k c2).ownBlock ≠ some i) ∧ Below S w0 w

theorem snew_short (A : Option Addr) (sz : List Int) (c : Nat) (w : World) (hc : sz.length ≤ c) (hm : c ≤ 9223372036854775807) (h : ¬ (2 ≤ sz.length ∧ sz.length ≤ 16)) :
    Calls Try.prog 29 #[.slice A sz.length c] w fun e w' => e = .returned (.tuple #[.pointer none, .int .i64 5]) ∧ w = w' := by
  by_cases h1 : sz.length < 2
  · go_enter Try.func29, Try.ntmps29
    go_wp2
    go_ret2
    exact ⟨rfl, rfl⟩
  · have h2 : 16 < sz.length := by omega
    go_enter Try.func29, Try.ntmps29
    go_wp2
    go_ret2
    exact ⟨rfl, rfl⟩

theorem snew_wrong (A : Option Addr) (sz : List Int) (c : Nat) (w : World) (hA : Rd w A (nums .i64 sz)) (hc : sz.length ≤ c) (hm : c ≤ 9223372036854775807) (h : 2 ≤ sz.length ∧ sz.length ≤ 16) (hb : ¬ ∀ k, k < sz.length → 1 ≤ nth sz k ∧ nth sz k ≤ 1048576) :
    Calls Try.prog 29 #[.slice A sz.length c] w fun e w' => e = .returned (.tuple #[.pointer none, .int .i64 5]) ∧ w = w' := by
  obtain ⟨h1, h2⟩ := h
  have hct := contains_yes A sz c w hA (by omega) hb
  have Hct := Lib.hid hct; clear hct hb hA
  go_enter Try.func29, Try.ntmps29
  go_wp2_with fail
  refine Hct.out.mono ?_
  rintro e w' ⟨rfl, rfl⟩
  go_wp2
  go_ret2
  exact ⟨rfl, rfl⟩

set_option maxHeartbeats 1000000 in
theorem snew_rightT (A : Option Addr) (sz : List Int) (c : Nat) (w : World) (hA : Rd w A (nums .i64 sz)) (hc : sz.length ≤ c) (hm : c ≤ 9223372036854775807) (h : RightSz sz) :
    Calls Try.prog 29 #[.slice A sz.length c] w fun e w' => Below w.heap.size w w' ∧ ((1048576 < cntN sz (sz.length - 1) ∧ e = .returned (.tuple #[.pointer none, .int .i64 4])) ∨
      (cntN sz (sz.length - 1) ≤ 1048576 ∧ ∃ b, e = .returned (.tuple #[.pointer (some ⟨b, 0, none⟩), .int .i64 0]) ∧ ShapeAt 92 (topW w.heap.size w') b sz ∧ w.heap.size ≤ b)) := by
  obtain ⟨b, o, rfl, _⟩ := hA.num (show 0 < sz.length by have := h.1.1; omega)
  have hct := contains_no (some ⟨b, o, none⟩) sz c w hA (by have := h.1.2; omega) h.2
  have hcl := iclone_any (some ⟨b, o, none⟩) sz c w hA (by have := h.1.2; omega)
  obtain ⟨n, hn⟩ : ∃ n, sz.length = n := ⟨_, rfl⟩
  obtain ⟨h1, h2⟩ := h.1
  rw [hn] at h1 h2 hct hcl hc ⊢
  have hc1 : ¬ (c = 1) := by omega
  have hc2 : 1 ≤ c := by omega
  have Hct := Lib.hid hct; have Hcl := Lib.hid hcl; have HAz := Lib.hid hA; have HR := Lib.hid h; have Hn := Lib.hid hn
  clear hct hcl hA h hn
  go_enter Try.func29, Try.ntmps29
  go_wp2_with fail
  refine Hct.out.mono ?_
  rintro e w' ⟨rfl, rfl⟩
  go_wp2_with fail
  refine Hcl.out.mono ?_
  rintro e w1 ⟨v, rfl, hown, hb⟩
  obtain ⟨Ac, cc, rfl, hcc⟩ := own_form hown
  have Hown := Lib.hid hown; have Hb := Lib.hid hb; have Hcc := Lib.hid hcc; clear hown hb hcc
  go_wp2_with fail
  go_loopw [30] (fun i wr => ∃ k : Nat, k ≤ n - 1 ∧ i = .int .i64 k ∧ NewI sz (.slice Ac n cc) (w1.heap.size + 1) w1.heap.size k w1 wr) (fun i _ => n - (intOf i).toNat)
  case atStart =>
    refine ⟨0, Nat.zero_le _, rfl, none, 0, none, 0, ?_, ?_, World.ownsRow_nil _ _ _ _, World.ownsRow_nil _ _ _ _, (fun i hi => by cases hi), ?_⟩
    · have := heap_alloc_new (w1.alloc (.cells #[.slice Ac n cc, .slice none 0 0, .slice none 0 0, .int .i64 0] 92)) (.cells #[.pointer (some ⟨w1.heap.size, 0, none⟩)] 69)
      simpa using this
    · exact (Below.heap_alloc _ _ _ (by simp)).trans (heap_alloc_new w1 _)
    · (focus (repeat' (first | (with_reducible exact Below.refl _ _) | (with_reducible assumption) | (with_reducible refine Below.setCell ?_ ?_ _) | (with_reducible refine Below.alloc ?_ ?_ _) | (with_reducible refine below_drewN ?_ _) | (with_reducible refine Below.drew ?_) | (with_reducible exact Nat.le_refl _) | omega | (simp; done) | (simp; omega))))
  case round =>
    obtain ⟨k, hk, rfl, A1, c1, A2, c2, hP, hS, ho1, ho2, hne, hW⟩ := hrel
    have hkn : k < sz.length := by rw [Hn.out]; omega
    have hcN := HR.out.bound hkn
    obtain ⟨x0, xf⟩ := bx1 hP
    obtain ⟨⟨s0, s1, s2, s3⟩, sf⟩ := bx4 hS
    have hPl := lt_of_block hP
    have hSl := lt_of_block hS
    have HP := Lib.hid hP; have HS := Lib.hid hS; have HO1 := Lib.hid ho1; have HO2 := Lib.hid ho2; have HN := Lib.hid hne; have HW := Lib.hid hW; clear hP hS ho1 ho2 hne hW
    by_cases hlt : k < n - 1
    · have hkn1 : k + 1 < sz.length := by rw [Hn.out]; omega
      have hmul := HR.out.mul hkn1
      have z0 := HR.out.at hkn
      have z1 := HR.out.at hkn1
      obtain ⟨_, _, e', p0⟩ := HAz.out.num hkn
      injection e' with e'; injection e' with e1 e2 _; subst e1; subst e2
      obtain ⟨_, _, e', p1⟩ := HAz.out.num hkn1
      injection e' with e'; injection e' with e1 e2 _; subst e1; subst e2
      have hb0 : b < w.heap.size := lt_of_cell p0
      have hbw1 : b < w1.heap.size := by have := Hb.out.size; omega
      have p0r := ((Hb.out.trans (HW.out.mono Hb.out.size)).cell (p := ⟨b, o + k, none⟩) hb0).trans p0
      have p1r := ((Hb.out.trans (HW.out.mono Hb.out.size)).cell (p := ⟨b, o + (k + 1), none⟩) hb0).trans p1
      rw [z0.2.2] at p0r
      rw [z1.2.2, show o + (k + 1) = o + 1 + k by omega] at p1r
      have hmid : midN sz k = cntN sz k + szN sz (k + 1) * szN sz k := rfl
      obtain ⟨p, hp⟩ : ∃ p, szN sz (k + 1) * szN sz k = p := ⟨_, rfl⟩
      rw [hp] at hmul hmid
      have hnx := fun W (h1 : W.heap[w1.heap.size + 1]? = _) (h2 : W.heap[w1.heap.size]? = _) => next_any p (cntN sz k) (w1.heap.size + 1) w1.heap.size (.slice Ac n cc) (.slice A1 k c1) (.slice A2 k c2) W h1 h2 hcN (by omega)
      rw [← hmid] at hnx
      have hpr : (szN sz (k + 1) : Int) * (szN sz k : Int) = (p : Int) := by rw [← Int.natCast_mul, hp]
      have hpw : IntKind.i64.wrap (p : Int) = (p : Int) := IntWalk.i64_in _ (by omega)
      have Hnx := Lib.hid hnx; have Hmid := Lib.hid hmid; clear hnx p0 p1 z0 z1 hmid
      have hki : (k : Int) < n := by omega
      go_wp2_with fail
      have hSw : (fun w' : World => w'.cell? ⟨w1.heap.size + 1, 0, none⟩ = some (.pointer (some ⟨w1.heap.size, 0, none⟩)) ∧ w'.cell? ⟨w1.heap.size, 1, none⟩ = some (.slice A1 k c1) ∧ w'.cell? ⟨b, o + k, none⟩ = some (.int .i64 (szN sz k))) wr.drew := ⟨x0, s1, p0r⟩
      refine XA.g 15 (fun w' : World => w'.cell? ⟨w1.heap.size + 1, 0, none⟩ = some (.pointer (some ⟨w1.heap.size, 0, none⟩)) ∧ w'.cell? ⟨w1.heap.size, 1, none⟩ = some (.slice A1 k c1) ∧ w'.cell? ⟨b, o + k, none⟩ = some (.int .i64 (szN sz k))) ?_
      refine XA.t ?_ [0, 1, 2, 3, 4, 5, 6, 7, 8, 9, 10, 11] hSw ?_
      refine XA.o 12 (fun K hK => ?_)
      go_simp
      refine (Hnx.out wr.drew HP.out HS.out).mono ?_
      rintro e w3 ⟨rfl, hS3, hK3⟩
      have g0 := hK3.cell (p := ⟨w1.heap.size + 1, 0, none⟩) x0 (by simp)
      have g1 := cell_of_row w3 _ 1 _ _ _ hS3
      have g2 := hK3.cell (p := ⟨b, o + k, none⟩) p0r (by simp; omega)
      have l0 : w1.heap.size + 1 < w3.heap.size := lt_of_cell g0
      have l1 : w1.heap.size < w3.heap.size := lt_of_cell g1
      have l2 : b < w3.heap.size := lt_of_cell g2
      have HS3 := Lib.hid hS3; have HK3 := Lib.hid hK3; clear hS3 hK3
      dsimp only
      refine hK.out _ _ ⟨g0, g1, g2⟩ (fun hSw => ?_)
      clear hK K
      refine XA.o 13 (fun K hK => ?_)
      go_simp
      refine hK.out _ _ ⟨cell_alloc g0 _, cell_alloc g1 _, cell_alloc g2 _⟩ (fun hSw => ?_)
      clear hK K
      have hO3 := HK3.out.own (own_drewN HO1.out 1) (fun i hi e => block_notrow HS.out (by decide) HO1.out (by rw [hi, e]))
      have hP3 := (HK3.out.block _ (lt_of_block HP.out) (by omega)).trans HP.out
      have HO3 := Lib.hid hO3; have HP3 := Lib.hid hP3; clear hO3 hP3
      refine XA.o 14 (fun K hK => ?_)
      refine step_appX et_rngs (.tmp 39) (.tmp 48) rfl rfl w1.heap.size (.slice A1 k c1) k (wVals sz k) rfl (HO3.out.alloc _) (some ⟨w3.heap.size, 0, none⟩) 1 1 [.int .i64 (cntN sz k : Int), .int .i64 (midN sz k : Int)] rfl (rd_newN w3 _ _ _ rfl) rfl (by simp [Value.oneCell']) (by omega) (by unfold maxLen; omega) (by simp; omega) ?_
      intro A4 c4 w4 ho4 hb4 hg4 hv4
      have hP4 := block_grown HP3.out (by decide) HO3.out hg4
      have hS4 := block_grown HS3.out (by decide) HO3.out hg4
      have i0 := cell_of_row w4 _ 0 _ _ _ hP4
      have i1 := cell_of_row w4 _ 1 _ _ _ hS4
      have i2 := cell_grown g2 hbw1 HO3.out hg4
      have i3 := frozen_of_row w4 _ 1 _ _ hS4
      have HO4 := Lib.hid ho4; have HP4 := Lib.hid hP4; have HS4 := Lib.hid hS4; have Hg4 := Lib.hid hg4; have Hv4 := Lib.hid hv4; have Hb4 := Lib.hid hb4; clear ho4 hP4 hS4 hg4 hv4 hb4
      dsimp only
      refine hK.out _ _ ⟨i0, i1, i2⟩ (fun hSw => ?_)
      clear hK K hSw
      refine XA.e ?_
      simp only [List.drop_succ_cons, List.drop_zero]
      go_wp2_with fail
      obtain ⟨h2o, h2n⟩ := own_other (HK3.out.own (own_drewN HO2.out 1) (fun i hi e => block_notrow HS.out (by decide) HO2.out (by rw [hi, e]))) HN.out Hg4.out Hv4.out
      have hP5 := (Below.heap_setCell w4 ⟨w1.heap.size, 1, none⟩ (.slice A4 (k + 1) c4) (w1.heap.size + 1) (by simp)).trans HP4.out
      have hS5 := heap_setCell_same w4 w1.heap.size 1 _ _ (.slice A4 (k + 1) c4) HS4.out
      have hk5 : Keep (fun i => i = w1.heap.size) w4 (w4.setCell ⟨w1.heap.size, 1, none⟩ (.slice A4 (k + 1) c4)) := Keep.setCell (S := fun i => i = w1.heap.size) (Keep.refl _ _) ⟨w1.heap.size, 1, none⟩ (.inr rfl) _
      have ho5 := hk5.own HO4.out (fun i hi e => block_notrow HS4.out (by decide) HO4.out (by rw [hi, e]))
      have ho25 := hk5.own h2o (fun i hi e => block_notrow HS4.out (by decide) h2o (by rw [hi, e]))
      have hW5 : Below w1.heap.size w1 (w4.setCell ⟨w1.heap.size, 1, none⟩ (.slice A4 (k + 1) c4)) :=
        ((HW.out.drew.trans ((HK3.out.toBelow (B := w1.heap.size) (by simp; omega) (fun i hi => by omega)))).trans ((((Below.refl _ w3).alloc (by omega) _)).trans Hb4.out)).setCell (by simp) _
      rw [← wVals_succ] at ho5
      obtain ⟨w5, hw5⟩ : ∃ w5, w5 = w4.setCell ⟨w1.heap.size, 1, none⟩ (.slice A4 (k + 1) c4) := ⟨_, rfl⟩
      rw [← hw5] at hP5 hS5 ho5 ho25 hW5 ⊢
      clear hw5 hk5 h2o i0 i1 i2 i3 g0 g1 g2 l0 l1 l2 x0 xf s0 s1 s2 s3 sf
      obtain ⟨x0, xf⟩ := bx1 hP5
      have y2 := cell_of_row w5 _ 2 _ _ _ hS5
      have hm2 := midN_eq sz k
      have z1 := (HR.out.at hkn1).2.1
      have hcN1 := HR.out.bound hkn1
      have hnx := fun W (h1 : W.heap[w1.heap.size + 1]? = _) (h2 : W.heap[w1.heap.size]? = _) => next_any (szN sz (k + 1)) (midN sz k) (w1.heap.size + 1) w1.heap.size (.slice Ac n cc) (.slice A4 (k + 1) c4) (.slice A2 k c2) W h1 h2 (by omega) (by omega)
      rw [hm2] at hnx
      have hPl := lt_of_block hP5
      have hSl := lt_of_block hS5
      have Hn5 := Lib.hid hnx; have HP5 := Lib.hid hP5; have HS5 := Lib.hid hS5; have HO5 := Lib.hid ho5; have HO25 := Lib.hid ho25; have HN5 := Lib.hid h2n; have HW5 := Lib.hid hW5; have Hm2 := Lib.hid hm2
      clear hnx hP5 hS5 ho5 ho25 h2n hW5 hm2 Hnx HK3 HS3 HO3 HP3 HO4 HP4 HS4 Hg4 Hv4 Hb4 hpr hpw
      go_wp2_with fail
      have hSw : (fun w' : World => w'.cell? ⟨w1.heap.size + 1, 0, none⟩ = some (.pointer (some ⟨w1.heap.size, 0, none⟩)) ∧ w'.cell? ⟨w1.heap.size, 2, none⟩ = some (.slice A2 k c2)) w5.drew := ⟨x0, y2⟩
      refine XA.g 10 (fun w' : World => w'.cell? ⟨w1.heap.size + 1, 0, none⟩ = some (.pointer (some ⟨w1.heap.size, 0, none⟩)) ∧ w'.cell? ⟨w1.heap.size, 2, none⟩ = some (.slice A2 k c2)) ?_
      refine XA.t ?_ [0, 1, 2, 3, 4, 5, 6] hSw ?_
      refine XA.o 7 (fun K hK => ?_)
      go_simp
      refine (Hn5.out w5.drew HP5.out HS5.out).mono ?_
      rintro e w6 ⟨rfl, hS6, hK6⟩
      have g0 := hK6.cell (p := ⟨w1.heap.size + 1, 0, none⟩) x0 (by simp)
      have g1 := cell_of_row w6 _ 2 _ _ _ hS6
      have l0 : w1.heap.size + 1 < w6.heap.size := lt_of_cell g0
      have HS6 := Lib.hid hS6; have HK6 := Lib.hid hK6; clear hS6 hK6
      dsimp only
      refine hK.out _ _ ⟨g0, g1⟩ (fun hSw => ?_)
      clear hK K
      refine XA.o 8 (fun K hK => ?_)
      go_simp
      refine hK.out _ _ ⟨cell_alloc g0 _, cell_alloc g1 _⟩ (fun hSw => ?_)
      clear hK K
      have hO6 := HK6.out.own (own_drewN HO25.out 1) (fun i hi e => block_notrow HS5.out (by decide) HO25.out (by rw [hi, e]))
      have hP6 := (HK6.out.block _ (lt_of_block HP5.out) (by omega)).trans HP5.out
      have HO6 := Lib.hid hO6; have HP6 := Lib.hid hP6; clear hO6 hP6
      refine XA.o 9 (fun K hK => ?_)
      refine step_appX et_rngs (.tmp 56) (.tmp 60) rfl rfl w1.heap.size (.slice A2 k c2) k (bVals sz k) rfl (HO6.out.alloc _) (some ⟨w6.heap.size, 0, none⟩) 1 1 [.int .i64 (midN sz k : Int), .int .i64 (cntN sz (k + 1) : Int)] rfl (rd_newN w6 _ _ _ rfl) rfl (by simp [Value.oneCell']) (by omega) (by unfold maxLen; omega) (by simp; omega) ?_
      intro A7 c7 w7 ho7 hb7 hg7 hv7
      have hP7 := block_grown HP6.out (by decide) HO6.out hg7
      have hS7 := block_grown HS6.out (by decide) HO6.out hg7
      have i0 := cell_of_row w7 _ 0 _ _ _ hP7
      have i1 := cell_of_row w7 _ 2 _ _ _ hS7
      have i3 := frozen_of_row w7 _ 2 _ _ hS7
      have HO7 := Lib.hid ho7; have HP7 := Lib.hid hP7; have HS7 := Lib.hid hS7; have Hg7 := Lib.hid hg7; have Hv7 := Lib.hid hv7; have Hb7 := Lib.hid hb7; clear ho7 hP7 hS7 hg7 hv7 hb7
      dsimp only
      refine hK.out _ _ ⟨i0, i1⟩ (fun hSw => ?_)
      clear hK K hSw
      refine XA.e ?_
      simp only [List.drop_succ_cons, List.drop_zero]
      go_wp2_with fail
      obtain ⟨h2o, h2n⟩ := own_other (HK6.out.own (own_drewN HO5.out 1) (fun i hi e => block_notrow HS5.out (by decide) HO5.out (by rw [hi, e]))) (fun i hi e => HN5.out i e hi) Hg7.out Hv7.out
      have hP8 := (Below.heap_setCell w7 ⟨w1.heap.size, 2, none⟩ (.slice A7 (k + 1) c7) (w1.heap.size + 1) (by simp)).trans HP7.out
      have hS8 := heap_setCell_same w7 w1.heap.size 2 _ _ (.slice A7 (k + 1) c7) HS7.out
      have hk8 : Keep (fun i => i = w1.heap.size) w7 (w7.setCell ⟨w1.heap.size, 2, none⟩ (.slice A7 (k + 1) c7)) := Keep.setCell (S := fun i => i = w1.heap.size) (Keep.refl _ _) ⟨w1.heap.size, 2, none⟩ (.inr rfl) _
      have ho8 := hk8.own HO7.out (fun i hi e => block_notrow HS7.out (by decide) HO7.out (by rw [hi, e]))
      have ho28 := hk8.own h2o (fun i hi e => block_notrow HS7.out (by decide) h2o (by rw [hi, e]))
      have hW8 : Below w1.heap.size w1 (w7.setCell ⟨w1.heap.size, 2, none⟩ (.slice A7 (k + 1) c7)) :=
        ((HW5.out.drew.trans ((HK6.out.toBelow (B := w1.heap.size) (by simp; omega) (fun i hi => by omega)))).trans ((((Below.refl _ w6).alloc (by omega) _)).trans Hb7.out)).setCell (by simp) _
      rw [← bVals_succ] at ho8
      go_roundw
      case rel => exact ⟨k + 1, by omega, by go_num, A4, c4, A7, c7, hP8, hS8, ho28, ho8, fun i hi e => h2n i e hi, hW8⟩
      case measure => simp [intOf]; omega
    · obtain rfl : k = n - 1 := by omega
      have hlen : sz.length - 1 = n - 1 := by rw [Hn.out]
      have hsh : ShapeAt 92 (topW w.heap.size wr) w1.heap.size sz := by
        have hz1 := Hb.out.size
        refine ⟨Ac, cc, A1, c1, A2, c2, ?_, ?_, ?_, ?_⟩
        · rw [Hn.out, top_blk hz1]; exact HS.out
        · exact Rd.own (own_top (own_below Hown.out HW.out) (Nat.le_refl _))
        · rw [hlen]; exact Rd.own (own_top HO1.out (by omega))
        · rw [hlen]; exact Rd.own (own_top HO2.out (by omega))
      have hBel : Below w.heap.size w wr := Hb.out.trans (HW.out.mono Hb.out.size)
      have Hsh := Lib.hid hsh; have HBel := Lib.hid hBel; have Hsz := Lib.hid Hb.out.size; clear hsh hBel hlen
      by_cases hbig : 1048576 < cntN sz (n - 1)
      · have hbi : (1048576 : Int) < cntN sz (n - 1) := by omega
        go_wp2_with fail
        go_ret2
        exact ⟨HBel.out, .inl ⟨hbig, rfl⟩⟩
      · have hbi : ¬ (1048576 : Int) < cntN sz (n - 1) := by omega
        go_wp2_with fail
        go_ret2
        first | exact ⟨HBel.out, by omega, _, rfl, Hsh.out, Hsz.out⟩ | exact ⟨HBel.out, .inr ⟨by omega, _, rfl, Hsh.out, Hsz.out⟩⟩
theorem snew_right (A : Option Addr) (sz : List Int) (c : Nat) (w : World) (hA : Rd w A (nums .i64 sz)) (hc : sz.length ≤ c) (hm : c ≤ 9223372036854775807) (h : RightSz sz) :
    Calls Try.prog 29 #[.slice A sz.length c] w fun e w' => Below w.heap.size w w' ∧ ((1048576 < cntN sz (sz.length - 1) ∧ e = .returned (.tuple #[.pointer none, .int .i64 4])) ∨
      (cntN sz (sz.length - 1) ≤ 1048576 ∧ ∃ b, e = .returned (.tuple #[.pointer (some ⟨b, 0, none⟩), .int .i64 0]) ∧ ShapeAt 92 w' b sz ∧ w.heap.size ≤ b)) := by
  refine (snew_rightT A sz c w hA hc hm h).mono fun e w' ⟨hb, hr⟩ => ⟨hb, ?_⟩
  rcases hr with hr | ⟨h1, b, he, hs, hz⟩
  · exact .inl hr
  · exact .inr ⟨h1, b, he, top_shape hs (Agr.refl _ _), hz⟩
end Go.Proofs.Ytaccfnffmbndhaa
