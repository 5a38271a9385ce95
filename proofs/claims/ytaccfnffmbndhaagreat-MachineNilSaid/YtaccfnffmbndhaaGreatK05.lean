/- Blocks that are known whole, beside rows of one's own. The walk of shape.New. The walks of part.Count and Blocks. The walks of part.Even and Range.Size. No condition. -/
import Derived.Test.YtaccfnffmbndhaaGreatK01
import Derived.Test.YtaccfnffmbndhaaGreatK04
import Derived.Test.YtaccfnffmbndhaaGreatK02
import Derived.Test.YtaccfnffmbndhaaGreatK03
set_option linter.unusedSimpArgs false
set_option linter.unusedVariables false
namespace Go.Proofs.YtaccfnffmbndhaaGreat
open Go.RowKit
theorem block_notrow {W : World} {b : Nat} {cs : Array Value} {t e : TypeId} {sg : Nat × Nat} (h : W.heap[b]? = some (.cells cs t sg)) (hte : t ≠ e) {base size k : Nat} {v : Value} {xs : List Value} (hr : W.ownsRow base e size v k xs) : some b ≠ v.ownBlock := by
  rcases hr.2 with ⟨rfl, _⟩ | ⟨g, cap, cur, rfl, _, hgb, _⟩
  · simp [Value.ownBlock]
  · intro e'
    obtain rfl : b = g := by simpa [Value.ownBlock] using e'
    have := h.symm.trans hgb
    simp at this
    exact hte this.2.1
theorem block_grown {W W' : World} {b : Nat} {cs : Array Value} {t e : TypeId} {sg : Nat × Nat} {o : Obj} (h : W.heap[b]? = some (.cells cs t sg)) (hte : t ≠ e) {base size k : Nat} {v : Value} {xs : List Value} (hr : W.ownsRow base e size v k xs) (hg : (W.alloc o).grownBy W' v.ownBlock) : W'.heap[b]? = some (.cells cs t sg) :=
  (hg.block b (by have := lt_of_block h; simp; omega) (block_notrow h hte hr)).trans ((Below.heap_alloc W o b (lt_of_block h)).trans h)
theorem cell_grown {W W' : World} {b o : Nat} {u : Value} {e : TypeId} {ob : Obj} (h : W.cell? ⟨b, o, none⟩ = some u) {base size k : Nat} {v : Value} {xs : List Value} (hb : b < base) (hr : W.ownsRow base e size v k xs) (hg : (W.alloc ob).grownBy W' v.ownBlock) : W'.cell? ⟨b, o, none⟩ = some u :=
  hg.cell ((World.cell?_of_block (w := W) (Below.heap_alloc W ob b (lt_of_cell h))).trans h) (fun e => by
    have e' : v.ownBlock = some b := e.symm
    have := (hr.lt b e').1
    omega)
theorem own_other {W W' : World} {base' : Nat} {e' : TypeId} {size' m : Nat} {v v' u : Value} {ys : List Value} {o : Obj} (hu : W.ownsRow base' e' size' u m ys) (hne : ∀ i, v.ownBlock = some i → u.ownBlock ≠ some i)
    (hg : (W.alloc o).grownBy W' v.ownBlock) (hv : v'.ownBlock = v.ownBlock ∨ v'.ownBlock = some (W.alloc o).heap.size) : W'.ownsRow base' e' size' u m ys ∧ ∀ i, v'.ownBlock = some i → u.ownBlock ≠ some i := by
  refine ⟨(hu.alloc o).kept hg ?_, fun i hi => ?_⟩
  · cases hub : u.ownBlock with
    | none => exact .inl rfl
    | some k => exact .inr fun e => hne k e.symm hub
  · rcases hv with hv | hv
    · exact hne i (hv ▸ hi)
    · intro e
      have h1 := (hu.lt i e).2
      rw [hi] at hv
      simp at hv
      omega
theorem cell_alloc {W : World} {p : Addr} {u : Value} (h : W.cell? p = some u) (o : Obj) : (W.alloc o).cell? p = some u :=
  (World.cell?_of_block (w := W) (Below.heap_alloc W o _ (lt_of_cell h))).trans h
theorem cell_below {w w' : World} {p : Addr} {u : Value} (hb : Below w.heap.size w w') (h : w.cell? p = some u) : w'.cell? p = some u := (World.cell?_of_block (w := w) (hb.block _ (lt_of_cell h))).trans h
theorem own_types {W : World} {b1 b2 e1 e2 s1 s2 n1 n2 : Nat} {v1 v2 : Value} {xs1 xs2 : List Value} (h1 : W.ownsRow b1 e1 s1 v1 n1 xs1) (h2 : W.ownsRow b2 e2 s2 v2 n2 xs2) (hne : e1 ≠ e2) : ∀ i, v1.ownBlock = some i → v2.ownBlock ≠ some i := by
  intro i hi e
  rcases h1.2 with ⟨rfl, _⟩ | ⟨g, cap, cur, rfl, _, hgb, _⟩
  · cases hi
  · obtain rfl : g = i := by simpa [Value.ownBlock] using hi
    exact block_notrow hgb hne h2 e.symm
theorem own_past {W W' : World} {e' e size' size n m : Nat} {v u y : Value} {xs ys : List Value} {o : Obj} {base base' B j : Nat} {cs : Array Value} {t : TypeId} (hu : W.ownsRow base' e' size' u m ys) (hv : W.ownsRow base e size v n xs) (hg : (W.alloc o).grownBy W' v.ownBlock)
    (hB : W'.heap[B]? = some (.cells cs t (0, 0))) (h1 : e ≠ e') (h2 : t ≠ e') : (W'.setCell ⟨B, j, none⟩ y).ownsRow base' e' size' u m ys := by
  have h3 : W'.ownsRow base' e' size' u m ys := by
    refine (hu.alloc o).kept hg ?_
    cases hub : u.ownBlock with
    | none => exact .inl rfl
    | some k => exact .inr fun e9 => own_types hv hu h1 k e9.symm hub
  exact (Keep.setCell (S := fun i => i = B) (Keep.refl _ W') ⟨B, j, none⟩ (.inr rfl) y).own h3 (fun i hi e9 => block_notrow hB h2 h3 (by rw [hi, e9]))
theorem grown_undrew {W W' : World} {r : Option Nat} (h : W.drew.grownBy W' r) : W.grownBy W' r := ⟨h.os, h.tape, h.output, h.size, h.block⟩
end Go.Proofs.YtaccfnffmbndhaaGreat
namespace Go.Proofs.YtaccfnffmbndhaaGreat
open Go.RowKit
theorem top_shape {T : TypeId} {B : Nat} {u v : World} {b : Nat} {sz : List Int} (h : ShapeAt T (topW B u) b sz) (hv : Agr B u v) : ShapeAt T v b sz := by
  obtain ⟨A1, c1, A2, c2, A3, c3, h0, h1, h2, h3⟩ := h
  exact ⟨A1, c1, A2, c2, A3, c3, top_heap h0 hv, top_rd h1 hv, top_rd h2 hv, top_rd h3 hv⟩
theorem et_rngs : ElemT Tryz.prog 120 52 (.agg #[.int .i64 0, .int .i64 0]) 2 16 := ⟨Tryz.underlying120, info_parts (by kernel_rfl), rfl, by decide⟩
def NewI (sz : List Int) (x0 : Value) (P S : Nat) (k : Nat) (w0 w : World) : Prop :=
  ∃ A1 c1 A2 c2, w.heap[P]? = some (.cells #[.pointer (some ⟨S, 0, none⟩)] 109 (0, 0)) ∧ w.heap[S]? = some (.cells #[x0, .slice A1 k c1, .slice A2 k c2, .int .i64 (cntN sz k : Int)] 186 (0, 0)) ∧
    w.ownsRow S 52 2 (.slice A1 k c1) k (wVals sz k) ∧ w.ownsRow S 52 2 (.slice A2 k c2) k (bVals sz k) ∧ (∀ i, (Value.slice A1 k c1).ownBlock = some i → (Value.slice A2 k c2).ownBlock ≠ some i) ∧ Below S w0 w
theorem snew_short (A : Option Addr) (sz : List Int) (c : Nat) (w : World) (hc : sz.length ≤ c) (hm : c ≤ 9223372036854775807) (h : ¬ (2 ≤ sz.length ∧ sz.length ≤ 16)) :
    Calls Tryz.prog 43 #[.slice A sz.length c] w fun e w' => e = .returned (.tuple #[.pointer none, .int .i64 5]) ∧ w = w' := by
  by_cases h1 : sz.length < 2
  · go_enter Tryz.func43, Tryz.ntmps43
    go_wp2
    go_ret2
    exact ⟨rfl, rfl⟩
  · have h2 : 16 < sz.length := by omega
    go_enter Tryz.func43, Tryz.ntmps43
    go_wp2
    go_ret2
    exact ⟨rfl, rfl⟩
theorem snew_wrong (A : Option Addr) (sz : List Int) (c : Nat) (w : World) (hA : Rd w A (nums .i64 sz)) (hc : sz.length ≤ c) (hm : c ≤ 9223372036854775807) (h : 2 ≤ sz.length ∧ sz.length ≤ 16) (hb : ¬ ∀ k, k < sz.length → 1 ≤ nth sz k ∧ nth sz k ≤ 1048576) :
    Calls Tryz.prog 43 #[.slice A sz.length c] w fun e w' => e = .returned (.tuple #[.pointer none, .int .i64 5]) ∧ w = w' := by
  obtain ⟨h1, h2⟩ := h
  have hct := contains_yes A sz c w hA (by omega) hb
  have Hct := Lib.hid hct; clear hct hb hA
  go_enter Tryz.func43, Tryz.ntmps43
  go_wp2_with fail
  refine Hct.out.mono ?_
  rintro e w' ⟨rfl, rfl⟩
  go_wp2
  go_ret2
  exact ⟨rfl, rfl⟩
set_option maxHeartbeats 1000000 in
theorem snew_rightT (A : Option Addr) (sz : List Int) (c : Nat) (w : World) (hA : Rd w A (nums .i64 sz)) (hc : sz.length ≤ c) (hm : c ≤ 9223372036854775807) (h : RightSz sz) :
    Calls Tryz.prog 43 #[.slice A sz.length c] w fun e w' => Below w.heap.size w w' ∧ ((1048576 < cntN sz (sz.length - 1) ∧ e = .returned (.tuple #[.pointer none, .int .i64 4])) ∨
      (cntN sz (sz.length - 1) ≤ 1048576 ∧ ∃ b, e = .returned (.tuple #[.pointer (some ⟨b, 0, none⟩), .int .i64 0]) ∧ ShapeAt 186 (topW w.heap.size w') b sz ∧ w.heap.size ≤ b)) := by
  obtain ⟨b, o, rfl, _⟩ := hA.num (show 0 < sz.length by have := h.1.1; omega)
  have hct := contains_no (some ⟨b, o, none⟩) sz c w hA (by have := h.1.2; omega) h.2
  have hcl := iclone_any (some ⟨b, o, none⟩) sz c w hA (by have := h.1.2; omega)
  obtain ⟨n, hn⟩ : ∃ n, sz.length = n := ⟨_, rfl⟩
  obtain ⟨h1, h2⟩ := h.1
  rw [hn] at h1 h2 hct hcl hc ⊢
  have hc1 : ¬ (c = 1) := by omega
  have hc2 : 1 ≤ c := by omega
  have Hct := Lib.hid hct; have Hcl := Lib.hid hcl; have HAz := Lib.hid hA; have HR := Lib.hid h; have Hn := Lib.hid hn
  clear hct hcl hA h hn
  go_enter Tryz.func43, Tryz.ntmps43
  go_wp2_with fail
  refine Hct.out.mono ?_
  rintro e w' ⟨rfl, rfl⟩
  go_wp2_with fail
  refine Hcl.out.mono ?_
  rintro e w1 ⟨v, rfl, hown, hb⟩
  obtain ⟨Ac, cc, rfl, hcc⟩ := own_form hown
  have Hown := Lib.hid hown; have Hb := Lib.hid hb; have Hcc := Lib.hid hcc; clear hown hb hcc
  go_wp2_with fail
  go_loopw [30] (fun i wr => ∃ k : Nat, k ≤ n - 1 ∧ i = .int .i64 k ∧ NewI sz (.slice Ac n cc) (w1.heap.size + 1) w1.heap.size k w1 wr) (fun i _ => n - (intOf i).toNat)
  case atStart =>
    refine ⟨0, Nat.zero_le _, rfl, none, 0, none, 0, ?_, ?_, World.ownsRow_nil _ _ _ _, World.ownsRow_nil _ _ _ _, (fun i hi => by cases hi), ?_⟩
    · have := heap_alloc_new (w1.alloc (.cells #[.slice Ac n cc, .slice none 0 0, .slice none 0 0, .int .i64 0] 186)) (.cells #[.pointer (some ⟨w1.heap.size, 0, none⟩)] 109)
      simpa using this
    · exact (Below.heap_alloc _ _ _ (by simp)).trans (heap_alloc_new w1 _)
    · (focus (repeat' (first | (with_reducible exact Below.refl _ _) | (with_reducible assumption) | (with_reducible refine Below.setCell ?_ ?_ _) | (with_reducible refine Below.alloc ?_ ?_ _) | (with_reducible refine below_drewN ?_ _) | (with_reducible refine Below.drew ?_) | (with_reducible exact Nat.le_refl _) | omega | (simp; done) | (simp; omega))))
  case round =>
    obtain ⟨k, hk, rfl, A1, c1, A2, c2, hP, hS, ho1, ho2, hne, hW⟩ := hrel
    have hkn : k < sz.length := by rw [Hn.out]; omega
    have hcN := HR.out.bound hkn
    obtain ⟨x0, xf⟩ := bx1 hP
    obtain ⟨⟨s0, s1, s2, s3⟩, sf⟩ := bx4 hS
    have hPl := lt_of_block hP
    have hSl := lt_of_block hS
    have HP := Lib.hid hP; have HS := Lib.hid hS; have HO1 := Lib.hid ho1; have HO2 := Lib.hid ho2; have HN := Lib.hid hne; have HW := Lib.hid hW; clear hP hS ho1 ho2 hne hW
    by_cases hlt : k < n - 1
    · have hkn1 : k + 1 < sz.length := by rw [Hn.out]; omega
      have hmul := HR.out.mul hkn1
      have z0 := HR.out.at hkn
      have z1 := HR.out.at hkn1
      obtain ⟨_, _, e', p0⟩ := HAz.out.num hkn
      injection e' with e'; injection e' with e1 e2 _; subst e1; subst e2
      obtain ⟨_, _, e', p1⟩ := HAz.out.num hkn1
      injection e' with e'; injection e' with e1 e2 _; subst e1; subst e2
      have hb0 : b < w.heap.size := lt_of_cell p0
      have hbw1 : b < w1.heap.size := by have := Hb.out.size; omega
      have p0r := ((Hb.out.trans (HW.out.mono Hb.out.size)).cell (p := ⟨b, o + k, none⟩) hb0).trans p0
      have p1r := ((Hb.out.trans (HW.out.mono Hb.out.size)).cell (p := ⟨b, o + (k + 1), none⟩) hb0).trans p1
      rw [z0.2.2] at p0r
      rw [z1.2.2, show o + (k + 1) = o + 1 + k by omega] at p1r
      have hmid : midN sz k = cntN sz k + szN sz (k + 1) * szN sz k := rfl
      obtain ⟨p, hp⟩ : ∃ p, szN sz (k + 1) * szN sz k = p := ⟨_, rfl⟩
      rw [hp] at hmul hmid
      have hnx := fun W (h1 : W.heap[w1.heap.size + 1]? = _) (h2 : W.heap[w1.heap.size]? = _) => next_any p (cntN sz k) (w1.heap.size + 1) w1.heap.size (.slice Ac n cc) (.slice A1 k c1) (.slice A2 k c2) W h1 h2 hcN (by omega)
      rw [← hmid] at hnx
      have hpr : (szN sz (k + 1) : Int) * (szN sz k : Int) = (p : Int) := by rw [← Int.natCast_mul, hp]
      have hpw : IntKind.i64.wrap (p : Int) = (p : Int) := IntWalk.i64_in _ (by omega)
      have Hnx := Lib.hid hnx; have Hmid := Lib.hid hmid; clear hnx p0 p1 z0 z1 hmid
      have hki : (k : Int) < n := by omega
      go_wp2_with fail
      have hSw : (fun w' : World => w'.cell? ⟨w1.heap.size + 1, 0, none⟩ = some (.pointer (some ⟨w1.heap.size, 0, none⟩)) ∧ w'.cell? ⟨w1.heap.size, 1, none⟩ = some (.slice A1 k c1) ∧ w'.cell? ⟨b, o + k, none⟩ = some (.int .i64 (szN sz k))) wr.drew := ⟨x0, s1, p0r⟩
      refine XA.g 15 (fun w' : World => w'.cell? ⟨w1.heap.size + 1, 0, none⟩ = some (.pointer (some ⟨w1.heap.size, 0, none⟩)) ∧ w'.cell? ⟨w1.heap.size, 1, none⟩ = some (.slice A1 k c1) ∧ w'.cell? ⟨b, o + k, none⟩ = some (.int .i64 (szN sz k))) ?_
      refine XA.t ?_ [0, 1, 2, 3, 4, 5, 6, 7, 8, 9, 10, 11] hSw ?_
      refine XA.o 12 (fun K hK => ?_)
      go_simp
      refine (Hnx.out wr.drew HP.out HS.out).mono ?_
      rintro e w3 ⟨rfl, hS3, hK3⟩
      have g0 := hK3.cell (p := ⟨w1.heap.size + 1, 0, none⟩) x0 (by simp)
      have g1 := cell_of_row w3 _ 1 _ _ _ hS3
      have g2 := hK3.cell (p := ⟨b, o + k, none⟩) p0r (by simp; omega)
      have l0 : w1.heap.size + 1 < w3.heap.size := lt_of_cell g0
      have l1 : w1.heap.size < w3.heap.size := lt_of_cell g1
      have l2 : b < w3.heap.size := lt_of_cell g2
      have HS3 := Lib.hid hS3; have HK3 := Lib.hid hK3; clear hS3 hK3
      dsimp only
      refine hK.out _ _ ⟨g0, g1, g2⟩ (fun hSw => ?_)
      clear hK K
      refine XA.o 13 (fun K hK => ?_)
      go_simp
      refine hK.out _ _ ⟨cell_alloc g0 _, cell_alloc g1 _, cell_alloc g2 _⟩ (fun hSw => ?_)
      clear hK K
      have hO3 := HK3.out.own (own_drewN HO1.out 1) (fun i hi e => block_notrow HS.out (by decide) HO1.out (by rw [hi, e]))
      have hP3 := (HK3.out.block _ (lt_of_block HP.out) (by omega)).trans HP.out
      have HO3 := Lib.hid hO3; have HP3 := Lib.hid hP3; clear hO3 hP3
      refine XA.o 14 (fun K hK => ?_)
      refine step_appX et_rngs (.tmp 39) (.tmp 48) rfl rfl w1.heap.size (.slice A1 k c1) k (wVals sz k) rfl (HO3.out.alloc _) (some ⟨w3.heap.size, 0, none⟩) 1 1 [.int .i64 (cntN sz k : Int), .int .i64 (midN sz k : Int)] rfl (rd_newN w3 _ _ _ rfl) rfl (by simp [Value.oneCell']) (by omega) (by unfold maxLen; omega) (by simp; omega) ?_
      intro A4 c4 w4 ho4 hb4 hg4 hv4
      have hP4 := block_grown HP3.out (by decide) HO3.out hg4
      have hS4 := block_grown HS3.out (by decide) HO3.out hg4
      have i0 := cell_of_row w4 _ 0 _ _ _ hP4
      have i1 := cell_of_row w4 _ 1 _ _ _ hS4
      have i2 := cell_grown g2 hbw1 HO3.out hg4
      have i3 := frozen_of_row w4 _ 1 _ _ hS4
      have HO4 := Lib.hid ho4; have HP4 := Lib.hid hP4; have HS4 := Lib.hid hS4; have Hg4 := Lib.hid hg4; have Hv4 := Lib.hid hv4; have Hb4 := Lib.hid hb4; clear ho4 hP4 hS4 hg4 hv4 hb4
      dsimp only
      refine hK.out _ _ ⟨i0, i1, i2⟩ (fun hSw => ?_)
      clear hK K hSw
      refine XA.e ?_
      simp only [List.drop_succ_cons, List.drop_zero]
      go_wp2_with fail
      obtain ⟨h2o, h2n⟩ := own_other (HK3.out.own (own_drewN HO2.out 1) (fun i hi e => block_notrow HS.out (by decide) HO2.out (by rw [hi, e]))) HN.out Hg4.out Hv4.out
      have hP5 := (Below.heap_setCell w4 ⟨w1.heap.size, 1, none⟩ (.slice A4 (k + 1) c4) (w1.heap.size + 1) (by simp)).trans HP4.out
      have hS5 := heap_setCell_same w4 w1.heap.size 1 _ _ (.slice A4 (k + 1) c4) HS4.out
      have hk5 : Keep (fun i => i = w1.heap.size) w4 (w4.setCell ⟨w1.heap.size, 1, none⟩ (.slice A4 (k + 1) c4)) := Keep.setCell (S := fun i => i = w1.heap.size) (Keep.refl _ _) ⟨w1.heap.size, 1, none⟩ (.inr rfl) _
      have ho5 := hk5.own HO4.out (fun i hi e => block_notrow HS4.out (by decide) HO4.out (by rw [hi, e]))
      have ho25 := hk5.own h2o (fun i hi e => block_notrow HS4.out (by decide) h2o (by rw [hi, e]))
      have hW5 : Below w1.heap.size w1 (w4.setCell ⟨w1.heap.size, 1, none⟩ (.slice A4 (k + 1) c4)) :=
        ((HW.out.drew.trans ((HK3.out.toBelow (B := w1.heap.size) (by simp; omega) (fun i hi => by omega)))).trans ((((Below.refl _ w3).alloc (by omega) _)).trans Hb4.out)).setCell (by simp) _
      rw [← wVals_succ] at ho5
      obtain ⟨w5, hw5⟩ : ∃ w5, w5 = w4.setCell ⟨w1.heap.size, 1, none⟩ (.slice A4 (k + 1) c4) := ⟨_, rfl⟩
      rw [← hw5] at hP5 hS5 ho5 ho25 hW5 ⊢
      clear hw5 hk5 h2o i0 i1 i2 i3 g0 g1 g2 l0 l1 l2 x0 xf s0 s1 s2 s3 sf
      obtain ⟨x0, xf⟩ := bx1 hP5
      have y2 := cell_of_row w5 _ 2 _ _ _ hS5
      have hm2 := midN_eq sz k
      have z1 := (HR.out.at hkn1).2.1
      have hcN1 := HR.out.bound hkn1
      have hnx := fun W (h1 : W.heap[w1.heap.size + 1]? = _) (h2 : W.heap[w1.heap.size]? = _) => next_any (szN sz (k + 1)) (midN sz k) (w1.heap.size + 1) w1.heap.size (.slice Ac n cc) (.slice A4 (k + 1) c4) (.slice A2 k c2) W h1 h2 (by omega) (by omega)
      rw [hm2] at hnx
      have hPl := lt_of_block hP5
      have hSl := lt_of_block hS5
      have Hn5 := Lib.hid hnx; have HP5 := Lib.hid hP5; have HS5 := Lib.hid hS5; have HO5 := Lib.hid ho5; have HO25 := Lib.hid ho25; have HN5 := Lib.hid h2n; have HW5 := Lib.hid hW5; have Hm2 := Lib.hid hm2
      clear hnx hP5 hS5 ho5 ho25 h2n hW5 hm2 Hnx HK3 HS3 HO3 HP3 HO4 HP4 HS4 Hg4 Hv4 Hb4 hpr hpw
      go_wp2_with fail
      have hSw : (fun w' : World => w'.cell? ⟨w1.heap.size + 1, 0, none⟩ = some (.pointer (some ⟨w1.heap.size, 0, none⟩)) ∧ w'.cell? ⟨w1.heap.size, 2, none⟩ = some (.slice A2 k c2)) w5.drew := ⟨x0, y2⟩
      refine XA.g 10 (fun w' : World => w'.cell? ⟨w1.heap.size + 1, 0, none⟩ = some (.pointer (some ⟨w1.heap.size, 0, none⟩)) ∧ w'.cell? ⟨w1.heap.size, 2, none⟩ = some (.slice A2 k c2)) ?_
      refine XA.t ?_ [0, 1, 2, 3, 4, 5, 6] hSw ?_
      refine XA.o 7 (fun K hK => ?_)
      go_simp
      refine (Hn5.out w5.drew HP5.out HS5.out).mono ?_
      rintro e w6 ⟨rfl, hS6, hK6⟩
      have g0 := hK6.cell (p := ⟨w1.heap.size + 1, 0, none⟩) x0 (by simp)
      have g1 := cell_of_row w6 _ 2 _ _ _ hS6
      have l0 : w1.heap.size + 1 < w6.heap.size := lt_of_cell g0
      have HS6 := Lib.hid hS6; have HK6 := Lib.hid hK6; clear hS6 hK6
      dsimp only
      refine hK.out _ _ ⟨g0, g1⟩ (fun hSw => ?_)
      clear hK K
      refine XA.o 8 (fun K hK => ?_)
      go_simp
      refine hK.out _ _ ⟨cell_alloc g0 _, cell_alloc g1 _⟩ (fun hSw => ?_)
      clear hK K
      have hO6 := HK6.out.own (own_drewN HO25.out 1) (fun i hi e => block_notrow HS5.out (by decide) HO25.out (by rw [hi, e]))
      have hP6 := (HK6.out.block _ (lt_of_block HP5.out) (by omega)).trans HP5.out
      have HO6 := Lib.hid hO6; have HP6 := Lib.hid hP6; clear hO6 hP6
      refine XA.o 9 (fun K hK => ?_)
      refine step_appX et_rngs (.tmp 56) (.tmp 60) rfl rfl w1.heap.size (.slice A2 k c2) k (bVals sz k) rfl (HO6.out.alloc _) (some ⟨w6.heap.size, 0, none⟩) 1 1 [.int .i64 (midN sz k : Int), .int .i64 (cntN sz (k + 1) : Int)] rfl (rd_newN w6 _ _ _ rfl) rfl (by simp [Value.oneCell']) (by omega) (by unfold maxLen; omega) (by simp; omega) ?_
      intro A7 c7 w7 ho7 hb7 hg7 hv7
      have hP7 := block_grown HP6.out (by decide) HO6.out hg7
      have hS7 := block_grown HS6.out (by decide) HO6.out hg7
      have i0 := cell_of_row w7 _ 0 _ _ _ hP7
      have i1 := cell_of_row w7 _ 2 _ _ _ hS7
      have i3 := frozen_of_row w7 _ 2 _ _ hS7
      have HO7 := Lib.hid ho7; have HP7 := Lib.hid hP7; have HS7 := Lib.hid hS7; have Hg7 := Lib.hid hg7; have Hv7 := Lib.hid hv7; have Hb7 := Lib.hid hb7; clear ho7 hP7 hS7 hg7 hv7 hb7
      dsimp only
      refine hK.out _ _ ⟨i0, i1⟩ (fun hSw => ?_)
      clear hK K hSw
      refine XA.e ?_
      simp only [List.drop_succ_cons, List.drop_zero]
      go_wp2_with fail
      obtain ⟨h2o, h2n⟩ := own_other (HK6.out.own (own_drewN HO5.out 1) (fun i hi e => block_notrow HS5.out (by decide) HO5.out (by rw [hi, e]))) (fun i hi e => HN5.out i e hi) Hg7.out Hv7.out
      have hP8 := (Below.heap_setCell w7 ⟨w1.heap.size, 2, none⟩ (.slice A7 (k + 1) c7) (w1.heap.size + 1) (by simp)).trans HP7.out
      have hS8 := heap_setCell_same w7 w1.heap.size 2 _ _ (.slice A7 (k + 1) c7) HS7.out
      have hk8 : Keep (fun i => i = w1.heap.size) w7 (w7.setCell ⟨w1.heap.size, 2, none⟩ (.slice A7 (k + 1) c7)) := Keep.setCell (S := fun i => i = w1.heap.size) (Keep.refl _ _) ⟨w1.heap.size, 2, none⟩ (.inr rfl) _
      have ho8 := hk8.own HO7.out (fun i hi e => block_notrow HS7.out (by decide) HO7.out (by rw [hi, e]))
      have ho28 := hk8.own h2o (fun i hi e => block_notrow HS7.out (by decide) h2o (by rw [hi, e]))
      have hW8 : Below w1.heap.size w1 (w7.setCell ⟨w1.heap.size, 2, none⟩ (.slice A7 (k + 1) c7)) :=
        ((HW5.out.drew.trans ((HK6.out.toBelow (B := w1.heap.size) (by simp; omega) (fun i hi => by omega)))).trans ((((Below.refl _ w6).alloc (by omega) _)).trans Hb7.out)).setCell (by simp) _
      rw [← bVals_succ] at ho8
      go_roundw
      case rel => exact ⟨k + 1, by omega, by go_num, A4, c4, A7, c7, hP8, hS8, ho28, ho8, fun i hi e => h2n i e hi, hW8⟩
      case measure => simp [intOf]; omega
    · obtain rfl : k = n - 1 := by omega
      have hlen : sz.length - 1 = n - 1 := by rw [Hn.out]
      have hsh : ShapeAt 186 (topW w.heap.size wr) w1.heap.size sz := by
        have hz1 := Hb.out.size
        refine ⟨Ac, cc, A1, c1, A2, c2, ?_, ?_, ?_, ?_⟩
        · rw [Hn.out, top_blk hz1]; exact HS.out
        · exact Rd.own (own_top (own_below Hown.out HW.out) (Nat.le_refl _))
        · rw [hlen]; exact Rd.own (own_top HO1.out (by omega))
        · rw [hlen]; exact Rd.own (own_top HO2.out (by omega))
      have hBel : Below w.heap.size w wr := Hb.out.trans (HW.out.mono Hb.out.size)
      have Hsh := Lib.hid hsh; have HBel := Lib.hid hBel; have Hsz := Lib.hid Hb.out.size; clear hsh hBel hlen
      by_cases hbig : 1048576 < cntN sz (n - 1)
      · have hbi : (1048576 : Int) < cntN sz (n - 1) := by omega
        go_wp2_with fail
        go_ret2
        exact ⟨HBel.out, .inl ⟨hbig, rfl⟩⟩
      · have hbi : ¬ (1048576 : Int) < cntN sz (n - 1) := by omega
        go_wp2_with fail
        go_ret2
        first | exact ⟨HBel.out, by omega, _, rfl, Hsh.out, Hsz.out⟩ | exact ⟨HBel.out, .inr ⟨by omega, _, rfl, Hsh.out, Hsz.out⟩⟩
end Go.Proofs.YtaccfnffmbndhaaGreat
namespace Go.Proofs.YtaccfnffmbndhaaGreat
open Go.RowKit
theorem count_any (n size : Nat) (w : World) (hn : n ≤ 1048576) (hs : 1 ≤ size) (hs2 : size ≤ 1048576) :
    Calls Tryz.prog 98 #[.int .i64 n, .int .i64 size] w fun e w' => e = .returned (.int .i64 (cntQ n size : Int)) ∧ w = w' := by
  have hq : ¬ ((size : Int) < 1) := by omega
  by_cases h0 : n = 0
  · subst h0
    go_enter Tryz.func98, Tryz.ntmps98
    go_wp2
    go_ret
    exact ⟨rfl, rfl⟩
  · have hq2 : ¬ ((n : Int) < 1) := by omega
    have hq3 : (0 : Int) ≤ (n : Int) - 1 := by omega
    have he := ediv_pred n size (by omega)
    have hle := Nat.div_le_self (n - 1) size
    have hc : cntQ n size = (n - 1) / size + 1 := by unfold cntQ; rw [if_neg h0]
    rw [hc]
    obtain ⟨y, hy⟩ : ∃ y, (n - 1) / size = y := ⟨_, rfl⟩
    rw [hy] at he hle ⊢
    have htd : ((n : Int) - 1).tdiv size = y := by rw [Int.tdiv_eq_ediv_of_nonneg hq3, he]
    have Hy := Lib.hid hy; have Hc := Lib.hid hc; clear hy hc h0
    go_enter Tryz.func98, Tryz.ntmps98
    go_wp2
    go_ret
    exact ⟨rfl, rfl⟩
set_option maxHeartbeats 800000 in
theorem blocks_any (n size : Nat) (w : World) (hn : n ≤ 1048576) (hs : 1 ≤ size) (hs2 : size ≤ 1048576) :
    Calls Tryz.prog 94 #[.int .i64 n, .int .i64 size] w fun e w' => ∃ v, e = .returned v ∧ w'.ownsRow w.heap.size 52 2 v (cntQ n size) (blkVals n size (cntQ n size)) ∧ Below w.heap.size w w' := by
  have hco := count_any n size w hn hs hs2
  have hle := cntQ_le n size
  have hlt' := fun k (h : k < cntQ n size) => cntQ_lt h
  obtain ⟨m, hm⟩ : ∃ m, cntQ n size = m := ⟨_, rfl⟩
  rw [hm] at hco hle hlt' ⊢
  have Hco := Lib.hid hco; have Hlt := Lib.hid hlt'; clear hco hm hlt'
  go_enter Tryz.func94, Tryz.ntmps94
  go_wp2_with fail
  refine Hco.out.mono ?_
  rintro e w' ⟨rfl, rfl⟩
  go_wp2_with fail
  go_loopw [5, 11] (fun v x wr => ∃ k : Nat, k ≤ m ∧ x = .int .i64 k ∧ wr.ownsRow w.heap.size 52 2 v k (blkVals n size k) ∧ Below w.heap.size w wr) (fun _ x _ => m - (intOf x).toNat)
  case atStart => exact ⟨0, Nat.zero_le _, rfl, World.ownsRow_nil _ _ _ _, Below.refl _ _⟩
  case round =>
    obtain ⟨k, hk, rfl, hown, hb⟩ := hrel
    by_cases hlt : k < m
    · have hlo := Hlt.out k hlt
      obtain ⟨y, hy⟩ : ∃ y, k * size = y := ⟨_, rfl⟩
      rw [hy] at hlo
      have hmul : (k : Int) * (size : Int) = (y : Int) := by rw [← hy]; push_cast; rfl
      obtain ⟨Al, cl, rfl, _⟩ := own_form hown
      have Hy := Lib.hid hy; have Hown := Lib.hid hown; have Hb := Lib.hid hb; clear hown hb hy
      by_cases hsz : (size : Int) ≤ (n : Int) - y
      · have hsz2 : (y : Int) + size ≤ n := by omega
        go_wp2_with (at_builtin; refine wpList_push et_rngs _ rfl (.tmp 17) (.tmp 27) rfl w.heap.size (.slice Al k cl) k _ rfl Hown.out [.int .i64 (y : Int), .int .i64 ((y : Int) + size)] rfl rfl (nums_cell .i64 [_, _]) (by omega) (by unfold maxLen; omega) Hb.out.size ?_)
        intro g6 c6 w6 ho6 hb6 hg6
        have HO6 := Lib.hid ho6; have HB6 := Lib.hid (Hb.out.trans hb6)
        clear ho6 hb6 hg6
        go_wp2_with fail
        go_roundw
        case rel =>
          refine ⟨k + 1, by omega, by go_num, ?_, HB6.out⟩
          rw [blkVals_succ, Hy.out, show ((min (y + size) n : Nat) : Int) = (y : Int) + size by omega]
          exact HO6.out
        case measure => simp [intOf]; omega
      · have hsz2 : (n : Int) - y < size := by omega
        go_wp2_with (at_builtin; refine wpList_push et_rngs _ rfl (.tmp 17) (.tmp 27) rfl w.heap.size (.slice Al k cl) k _ rfl Hown.out [.int .i64 (y : Int), .int .i64 ((y : Int) + ((n : Int) - y))] rfl rfl (nums_cell .i64 [_, _]) (by omega) (by unfold maxLen; omega) Hb.out.size ?_)
        intro g6 c6 w6 ho6 hb6 hg6
        have HO6 := Lib.hid ho6; have HB6 := Lib.hid (Hb.out.trans hb6)
        clear ho6 hb6 hg6
        go_wp2_with fail
        go_roundw
        case rel =>
          refine ⟨k + 1, by omega, by go_num, ?_, HB6.out⟩
          rw [blkVals_succ, Hy.out, show ((min (y + size) n : Nat) : Int) = (y : Int) + ((n : Int) - y) by omega]
          exact HO6.out
        case measure => simp [intOf]; omega
    · obtain rfl : m = k := by omega
      have Hown := Lib.hid hown; have Hb := Lib.hid hb; clear hown hb
      go_wp2_with fail
      go_ret
      exact ⟨_, rfl, Hown.out, Hb.out⟩
end Go.Proofs.YtaccfnffmbndhaaGreat
namespace Go.Proofs.YtaccfnffmbndhaaGreat
open Go.RowKit
theorem rgsize_any (a b : Nat) (w : World) (ha : a ≤ 1048576) (hb : b ≤ 1048576) :
    Calls Tryz.prog 181 #[.agg #[.int .i64 a, .int .i64 b]] w fun e w' => e = .returned (.int .i64 ((b - a : Nat) : Int)) ∧ Below w.heap.size w w' := by
  have hB : Below w.heap.size w (w.alloc (.cells #[.int .i64 a, .int .i64 b] 52)) := (br w).alloc (Nat.le_refl _) _
  by_cases h : a ≤ b
  · have h1 : ¬ ((b : Int) - a < 0) := by omega
    have h2 : ((b - a : Nat) : Int) = (b : Int) - a := by omega
    rw [h2]
    clear h2
    go_enter Tryz.func181, Tryz.ntmps181
    go_wp2
    go_ret
    exact ⟨ret_int (by first | rfl | omega | (simp; omega)), hB⟩
  · have h1 : (b : Int) - a < 0 := by omega
    have h2 : ((b - a : Nat) : Int) = 0 := by omega
    rw [h2]
    clear h2
    go_enter Tryz.func181, Tryz.ntmps181
    go_wp2
    go_ret
    exact ⟨ret_int (by first | rfl | omega | (simp; omega)), hB⟩
set_option maxRecDepth 100000 in
theorem bound_any (i n k bn bk : Nat) (w : World) (hn : w.heap[bn]? = some (.cells #[.int .i64 n] 3 (0, 0))) (hk : w.heap[bk]? = some (.cells #[.int .i64 k] 3 (0, 0))) (h1 : 1 ≤ k) (h2 : k ≤ 1048576) (h3 : n ≤ 1048576) (hi : i ≤ k) :
    Calls Tryz.prog 213 #[.int .i64 i, .pointer (some ⟨bn, 0, none⟩), .pointer (some ⟨bk, 0, none⟩)] w fun e w' => e = .returned (.int .i64 (bdN n k i : Int)) ∧ Below w.heap.size w w' := by
  have tn := fun w' q => bx1 (sb hn w' q)
  have tk := fun w' q => bx1 (sb hk w' q)
  have q0 := br w
  have hk0 : ¬ (k = 0) := by omega
  have hq1 : (n : Int).tdiv (k : Int) = ((n / k : Nat) : Int) := rfl
  have hq2 : (n : Int) / (k : Int) = ((n / k : Nat) : Int) := rfl
  have hr1 : (n : Int).tmod (k : Int) = ((n % k : Nat) : Int) := rfl
  have hr2 : (n : Int) % (k : Int) = ((n % k : Nat) : Int) := rfl
  have hle := bdN_le n k i (by omega) hi
  have hdef : bdN n k i = i * (n / k) + min i (n % k) := rfl
  have hql : n / k ≤ n := Nat.div_le_self _ _
  obtain ⟨q, hq⟩ : ∃ q, n / k = q := ⟨_, rfl⟩
  obtain ⟨r, hr⟩ : ∃ r, n % k = r := ⟨_, rfl⟩
  obtain ⟨p, hp⟩ : ∃ p, i * q = p := ⟨_, rfl⟩
  have hm : (i : Int) * (q : Int) = (p : Int) := by rw [← hp]; push_cast; rfl
  rw [hq] at hq1 hq2 hdef hql
  rw [hr] at hr1 hr2 hdef
  rw [hp] at hdef
  have hpl : p ≤ 1048576 := by omega
  have hw1 : IntKind.i64.wrap (p : Int) = p := IntWalk.i64_in _ (by omega)
  have hw2 : IntKind.i64.wrap (q : Int) = q := IntWalk.i64_in _ (by omega)
  obtain ⟨d, hd⟩ : ∃ d, bdN n k i = d := ⟨_, rfl⟩
  rw [hd] at hle hdef ⊢
  have Hdef := Lib.hid hdef
  clear hn hk hq hr hp hd hdef hle
  go_enter Tryz.func213, Tryz.ntmps213
  go_wp2_with fail
  refine HA.g (fun w' : World => Below w.heap.size w w') ?_
  refine HA.t ?_ [0, 1, 2, 3, 4, 5, 6, 7, 8] q0.drew ?_
  obtain ⟨mn, hmn⟩ : ∃ mn : Nat, min i r = mn := ⟨_, rfl⟩
  have hmin : (if r < i then (r : Int) else (i : Int)) = (mn : Int) := by rw [← hmn]; split <;> omega
  have hw3 : IntKind.i64.wrap ((p : Int) + (mn : Int)) = (p : Int) + mn := IntWalk.i64_in _ (by omega)
  refine HA.t ?_ [9] q0.drew ?_
  refine HA.t ?_ [10, 11] q0.drew ?_
  refine HA.d ?_
  have hB := q0.drew
  have hdd := Lib.hid (show (p : Int) + mn = (d : Int) by have := Hdef.out; omega)
  clear hmn hmin hw1 hw2 hw3 hq1 hq2 hr1 hr2 hm
  go_wp2_with fail
  go_ret
  exact ⟨ret_int hdd.out, hB⟩
set_option maxRecDepth 100000 in
theorem even_any (n k : Nat) (w : World) (h1 : 1 ≤ k) (h2 : k ≤ 1048576) (h3 : n ≤ 1048576) :
    Calls Tryz.prog 195 #[.int .i64 n, .int .i64 k] w fun e w' => ∃ v, e = .returned v ∧ w'.ownsRow w.heap.size 52 2 v k (rgVals (evenR n k)) ∧ Below w.heap.size w w' := by
  have hq1 : ¬ ((n : Int) < 0) := by omega
  have hq2 : ¬ ((k : Int) < 1) := by omega
  obtain ⟨W0, hW0⟩ : ∃ W0, (w.alloc (.cells #[.int .i64 n] 3)).alloc (.cells #[.int .i64 k] 3) = W0 := ⟨_, rfl⟩
  have hn : W0.heap[w.heap.size]? = some (.cells #[.int .i64 n] 3 (0, 0)) := by
    rw [← hW0, Below.heap_alloc _ _ _ (by simp)]; exact heap_alloc_new w _
  have hk : W0.heap[w.heap.size + 1]? = some (.cells #[.int .i64 k] 3 (0, 0)) := by
    rw [← hW0]; have := heap_alloc_new (w.alloc (.cells #[.int .i64 n] 3)) (.cells #[.int .i64 k] 3); simpa using this
  have hs0 : W0.heap.size = w.heap.size + 1 + 1 := by rw [← hW0]; simp
  have hB0 : Below w.heap.size w W0 := by rw [← hW0]; exact ((br w).alloc (Nat.le_refl _) _).alloc (by simp) _
  have tn := fun w' q => bx1 (sb hn w' q)
  have tk := fun w' q => bx1 (sb hk w' q)
  have hbd := fun i w' (q : Below W0.heap.size W0 w') (hi : i ≤ k) => bound_any i n k w.heap.size (w.heap.size + 1) w' (sb hn w' q) (sb hk w' q) h1 h2 h3 hi
  have hle := fun i (hi : i ≤ k) => bdN_le n k i (by omega) hi
  have HW0 := Lib.hid hW0; have Hbd := Lib.hid hbd; have Hle := Lib.hid hle; have Hs0 := Lib.hid hs0; have HB0 := Lib.hid hB0
  clear hW0 hn hk hbd hle hs0 hB0
  go_enter Tryz.func195, Tryz.ntmps195
  have q0 := br W0
  go_wp2_with fail
  rw [HW0.out]
  go_loopw [6, 16] (fun v x wr => ∃ m : Nat, m ≤ k ∧ x = .int .i64 m ∧ wr.ownsRow W0.heap.size 52 2 v m (rgVals ((List.range m).map fun i => (bdN n k i, bdN n k (i + 1)))) ∧ Below W0.heap.size W0 wr) (fun _ x _ => k - (intOf x).toNat)
  case atStart => exact ⟨0, Nat.zero_le _, rfl, World.ownsRow_nil _ _ _ _, q0⟩
  case round =>
    obtain ⟨m, hm, rfl, ho, q⟩ := hrel
    by_cases hlt : m < k
    · have hmi : (m : Int) < k := by omega
      obtain ⟨A, c, rfl, _⟩ := own_form ho
      have Ho := Lib.hid ho
      clear ho
      go_wp2_with fail
      refine (Hbd.out m wr q (by omega)).mono ?_
      rintro e w1 ⟨rfl, k1⟩
      have q1 := bt q k1
      have O1 := Lib.hid (own_below Ho.out k1)
      have hw1 : IntKind.i64.wrap ((m : Int) + 1) = ((m + 1 : Nat) : Int) := by rw [IntWalk.i64_in _ (by omega)]; push_cast; rfl
      clear k1 q
      go_wp2_with fail
      have hb2 := Hbd.out (m + 1) w1 q1 (by omega)
      rw [show ((m + 1 : Nat) : Int) = (m : Int) + 1 from by omega] at hb2
      refine hb2.mono ?_
      rintro e w2 ⟨rfl, k2⟩
      have q2 := bt q1 k2
      have O2 := Lib.hid (own_below O1.out k2)
      have hsz := q2.size
      clear hb2 k2 q1 O1 Ho
      go_wp2_with (at_builtin; refine wpList_push et_rngs _ rfl (.tmp 19) (.tmp 28) rfl W0.heap.size (.slice A m c) m _ rfl O2.out [.int .i64 (bdN n k m : Nat), .int .i64 (bdN n k (m + 1) : Nat)] rfl rfl (nums_cell .i64 [_, _]) (by omega) (by unfold maxLen; omega) hsz ?_)
      intro g6 c6 w6 ho6 hb6 hg6
      have HO6 := Lib.hid ho6
      have q6 := q2.trans hb6
      clear ho6 hb6 hg6 q2
      go_wp2_with fail
      go_roundw
      case rel => exact ⟨m + 1, by omega, by go_num, by rw [evenR_succ, rgVals_app]; exact HO6.out, q6⟩
      case measure => simp [intOf]; omega
    · obtain rfl : k = m := by omega
      have Ho := Lib.hid (own_base (base' := w.heap.size) ho (by have := Hs0.out; omega))
      have hB := HB0.out.trans (q.mono HB0.out.size)
      have HB := Lib.hid hB
      clear ho hB
      go_wp2_with fail
      go_ret
      exact ⟨_, rfl, Ho.out, HB.out⟩
end Go.Proofs.YtaccfnffmbndhaaGreat
