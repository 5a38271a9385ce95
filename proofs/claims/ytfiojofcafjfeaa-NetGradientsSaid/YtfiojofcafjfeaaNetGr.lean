/- The walk of the law NetGradients. -/
import Derived.Test.YtfiojofcafjfeaaOpnNet
import Derived.Test.YtfiojofcafjfeaaRefGr
set_option linter.unusedSimpArgs false
set_option linter.unusedVariables false
namespace Go.Proofs.Ytfiojofcafjfeaa
open Go.RowKit

set_option maxRecDepth 100000 in
set_option maxHeartbeats 2000000 in
theorem gradients_core (As Ap X Y : Option Addr) (sz ps x y : List Int) (cs cp cx cy : Nat) (q : Int) (W : World) (hs : NumsIn W As sz cs) (hp : NumsIn W Ap ps cp) (hx : NumsIn W X x cx) (hy : NumsIn W Y y cy) :
    Calls Try.prog 3 #[.agg #[.slice As sz.length cs, .slice Ap ps.length cp, .int .i64 q], .slice X x.length cx, .slice Y y.length cy] W fun e w' => e = .returned (.bool true) ∧ Below W.heap.size W w' := by
  have hfw := fun w' (k : Below W.heap.size W w') => rfew9_any As Ap sz ps.length cs cp q w' (hs.hr.below k) hs.hl hp.hl
  have hrt := fun w' (k : Below W.heap.size W w') => rright_any As Ap sz ps cs cp q w' (hs.hr.below k) hs.hl hp.hl
  have hln := fun w' (k : Below W.heap.size W w') => lnew_any As Ap sz ps cs cp q w' (hs.hr.below k) (hp.hr.below k) hs.hc hs.hm
  have hRN : RightN sz ps q → ∀ w', Below W.heap.size W w' → RNet w' As Ap sz ps cs := fun h w' k => ⟨hs.hr.below k, hp.hr.below k, h.1, h.2.2.2, hs.hc, hp.hw⟩
  have hlk := fun b w' (k : Below W.heap.size W w') (hN : NetAt 91 60 w' b sz ps q) (h : RightN sz ps q) (h1 : x.length = szN sz 0) (h2 : y.length = szN sz (sz.length - 1)) => grad_ok b sz ps q X Y x y cx cy w' hN h.1 hp.hw (hx.hr.below k) h1 hx.hw (hy.hr.below k) h2
  have hlo := fun b w' (k : Below W.heap.size W w') (hN : NetAt 91 60 w' b sz ps q) (h : RightN sz ps q) (hne : x.length ≠ szN sz 0 ∨ y.length ≠ szN sz (sz.length - 1)) => grad_no b sz ps q X Y x cx y.length cy w' hN h.1 hp.hw (hx.hr.below k) hx.hw hne
  have hrl := fun w' (k : Below W.heap.size W w') (h : RightN sz ps q) (h1 : x.length = szN sz 0) (h2 : y.length = szN sz (sz.length - 1)) => rgrad_any As Ap X Y sz ps x y cs cp cx cy q w' (hRN h w' k) (hx.hr.below k) h1 hx.hw hx.hc (hy.hr.below k) h2
  have hgn := fun (h1 : x.length = szN sz 0) (hl : 1 ≤ sz.length) => gradL_len (ps := ps) (q := q) (y := y) h1 hl
  have hsr := hs.hr
  obtain ⟨L, hL⟩ : ∃ L, sz.length = L := ⟨_, rfl⟩
  obtain ⟨m, hm⟩ : ∃ m, ps.length = m := ⟨_, rfl⟩
  obtain ⟨x0, hx0⟩ : ∃ x0, x.length = x0 := ⟨_, rfl⟩
  obtain ⟨y0, hy0⟩ : ∃ y0, y.length = y0 := ⟨_, rfl⟩
  have hlx := hx.hl
  have hly := hy.hl
  rw [hL] at hfw hrt hln hlk hlo hrl hgn ⊢
  rw [hm] at hfw hrt hln hrl ⊢
  rw [hx0] at hlk hlo hrl hlx hgn ⊢
  rw [hy0] at hlk hlo hrl hly ⊢
  have Hfw := Lib.hid hfw; have Hrt := Lib.hid hrt; have Hln := Lib.hid hln; have Hlk := Lib.hid hlk; have Hlo := Lib.hid hlo; have Hrl := Lib.hid hrl; have Hsr := Lib.hid hsr; have HL := Lib.hid hL; have Hgn := Lib.hid hgn
  clear hfw hrt hln hlk hlo hrl hRN hs hp hx hy hsr hL hm hx0 hy0 hgn
  go_enter Try.func3, Try.ntmps3
  go_wp2_with fail
  refine (Hfw.out _ ?_).mono ?_
  · (focus (repeat' (first | (with_reducible exact Below.refl _ _) | (with_reducible assumption) | (with_reducible refine Below.setCell ?_ ?_ _) | (with_reducible refine Below.alloc ?_ ?_ _) | (with_reducible refine below_drewN ?_ _) | (with_reducible refine Below.drew ?_) | (with_reducible exact Nat.le_refl _) | omega | (simp; done) | (simp; omega))))
  rintro e w1 ⟨⟨v, rfl, _⟩, hb1⟩
  have hbx1 := (hb1.block W.heap.size (by simp)).trans (heap_alloc_new W (.cells #[.slice As L cs, .slice Ap m cp, .int .i64 q] 25))
  have hB1 : Below W.heap.size W w1 := ((Below.refl _ W).alloc (Nat.le_refl _) _).trans (hb1.mono (by simp))
  have z0 := cell_of_row w1 _ 0 _ _ _ hbx1
  have z1 := cell_of_row w1 _ 1 _ _ _ hbx1
  have z2 := cell_of_row w1 _ 2 _ _ _ hbx1
  have zf := fun j => frozen_of_row w1 _ j _ _ hbx1
  have Hbx1 := Lib.hid hbx1; have HB1 := Lib.hid hB1; clear hb1 hbx1 hB1
  cases v with
  | false =>
    go_wp2_with fail
    refine (alive09 _).mono ?_
    rintro e w2 ⟨rfl, hb2⟩
    have HB2 := Lib.hid (HB1.out.trans (hb2.mono HB1.out.size)); clear hb2 z0 z1 z2 zf
    go_wp2_with fail
    go_ret
    exact ⟨rfl, HB2.out⟩
  | true =>
    go_wp2_with fail
    refine (Hrt.out _ HB1.out).mono ?_
    rintro e w2 ⟨h, hb2⟩
    have hbx2 := (hb2.block _ (lt_of_block Hbx1.out)).trans Hbx1.out
    have hB2 := HB1.out.trans (hb2.mono HB1.out.size)
    clear z0 z1 z2 zf
    have z0 := cell_of_row w2 _ 0 _ _ _ hbx2
    have z1 := cell_of_row w2 _ 1 _ _ _ hbx2
    have z2 := cell_of_row w2 _ 2 _ _ _ hbx2
    have zf := fun j => frozen_of_row w2 _ j _ _ hbx2
    have Hbx2 := Lib.hid hbx2; have HB2 := Lib.hid hB2; clear hb2 hbx2 hB2
    rcases h with ⟨hr, rfl⟩ | ⟨hr, rfl⟩
    · have HR := Lib.hid hr; clear hr
      by_cases hx6 : 600 < x0
      · go_wp2_with fail
        refine (alive09 _).mono ?_
        rintro e w3 ⟨rfl, hb3⟩
        have HB3 := Lib.hid (HB2.out.trans (hb3.mono HB2.out.size)); clear hb3 z0 z1 z2 zf
        go_wp2_with fail
        go_ret
        exact ⟨rfl, HB3.out⟩
      · by_cases hy6 : 600 < y0
        · go_wp2_with fail
          refine (alive09 _).mono ?_
          rintro e w3 ⟨rfl, hb3⟩
          have HB3 := Lib.hid (HB2.out.trans (hb3.mono HB2.out.size)); clear hb3 z0 z1 z2 zf
          go_wp2_with fail
          go_ret
          exact ⟨rfl, HB3.out⟩
        · go_wp2_with fail
          refine (Hln.out _ HB2.out).mono ?_
          rintro e w3 ⟨hb3, h⟩
          rcases h with ⟨_, b, rfl, hN, _⟩ | ⟨hno, _⟩
          · have hbx3 := (hb3.block _ (lt_of_block Hbx2.out)).trans Hbx2.out
            have hB3 := HB2.out.trans (hb3.mono HB2.out.size)
            clear z0 z1 z2 zf
            have HN := Lib.hid hN; have Hbx3 := Lib.hid hbx3; have HB3 := Lib.hid hB3; clear hN hb3 hbx3 hB3
            have hg := HR.out.1.1
            have hl16 := hg.1
            rw [HL.out] at hl16
            have s0 := hg.at (k := 0) (by have := HL.out; omega)
            have s1 := hg.at (k := L - 1) (by have := HL.out; omega)
            obtain ⟨b5, o5, rfl, p0⟩ := Hsr.out.num (show 0 < sz.length by have := HL.out; omega)
            obtain ⟨_, _, e', p1⟩ := Hsr.out.num (show L - 1 < sz.length by have := HL.out; omega)
            injection e' with e'; injection e' with e1 e2 _; subst e1; subst e2
            rw [s0.2.2] at p0
            rw [s1.2.2] at p1
            have hb5 : b5 < W.heap.size := lt_of_cell p0
            have hLw2 : (L : Int) - 1 = ((L - 1 : Nat) : Int) := by omega
            have hLw : IntKind.i64.wrap ((L : Int) - 1) = ((L - 1 : Nat) : Int) := by rw [IntWalk.i64_in _ (by omega)]; omega
            rw [hLw2] at hLw
            have hLi : ((L - 1 : Nat) : Int) < L := by omega
            have hLn : L - 1 < L := by omega
            have hL0 : 0 < L := by omega
            obtain ⟨n0, hn0⟩ : ∃ n0, szN sz 0 = n0 := ⟨_, rfl⟩
            obtain ⟨n1, hn1⟩ : ∃ n1, szN sz (L - 1) = n1 := ⟨_, rfl⟩
            have hlk := Hlk.out b w3 HB3.out HN.out HR.out
            have hlo := Hlo.out b w3 HB3.out HN.out HR.out
            have hrl := fun w' k => Hrl.out w' k HR.out
            have hgn := Hgn.out
            have hNb := HR.out.1.2
            rw [HL.out] at hNb
            obtain ⟨N, hN0⟩ : ∃ N, cntN sz (L - 1) = N := ⟨_, rfl⟩
            rw [hn0, hn1] at hlk hlo hrl
            rw [hn0] at hgn
            rw [hN0] at hlk hrl hgn hNb
            have Hgn2 := Lib.hid hgn
            rw [hn0] at p0
            rw [hn1] at p1
            have Hlk2 := Lib.hid hlk; have Hlo2 := Lib.hid hlo; have Hrl2 := Lib.hid hrl
            clear hlk hlo hrl hgn hN0 s0 s1 hg hn0 hn1 hl16
            by_cases hok : x0 = n0 ∧ y0 = n1
            · obtain ⟨rfl, rfl⟩ := hok
              have hq1 : ((x0 : Int) != (x0 : Int)) = false := by simp
              have hq2 : ((y0 : Int) != (y0 : Int)) = false := by simp
              go_wp2_with fail
              refine (Hlk2.out (by trivial) (by trivial)).mono ?_
              rintro e w4 ⟨A4, c4, rfl, ho4, hb4⟩
              have hbx4 := (hb4.block _ (lt_of_block Hbx3.out)).trans Hbx3.out
              have hB4 := HB3.out.trans (hb4.mono HB3.out.size)
              have p0' := (hB4.cell (p := ⟨b5, o5 + 0, none⟩) hb5).trans p0
              have p1' := (hB4.cell (p := ⟨b5, o5 + (L - 1), none⟩) hb5).trans p1
              rw [Nat.add_zero] at p0'
              have hr4 := Rd.own ho4
              have z0 := cell_of_row w4 _ 0 _ _ _ hbx4
              have z1 := cell_of_row w4 _ 1 _ _ _ hbx4
              have z2 := cell_of_row w4 _ 2 _ _ _ hbx4
              have zf := fun j => frozen_of_row w4 _ j _ _ hbx4
              have Hbx4 := Lib.hid hbx4; have HB4 := Lib.hid hB4; have Hr4 := Lib.hid hr4; clear hb4 hbx4 hB4 hr4 ho4
              go_wp2_with fail
              refine (alive09 _).mono ?_
              rintro e w5 ⟨rfl, hb5'⟩
              have hbx5 := (hb5'.block _ (lt_of_block Hbx4.out)).trans Hbx4.out
              have hB5 := HB4.out.trans (hb5'.mono HB4.out.size)
              have hr5 := Hr4.out.below hb5'
              clear z0 z1 z2 zf p0' p1'
              have z0 := cell_of_row w5 _ 0 _ _ _ hbx5
              have z1 := cell_of_row w5 _ 1 _ _ _ hbx5
              have z2 := cell_of_row w5 _ 2 _ _ _ hbx5
              have zf := fun j => frozen_of_row w5 _ j _ _ hbx5
              have HB5 := Lib.hid hB5; have Hr5 := Lib.hid hr5; clear hb5' hbx5 hB5 hr5
              go_wp2_with fail
              refine (Hrl2.out _ HB5.out (by trivial) (by trivial)).mono ?_
              rintro e w6 ⟨A6, c6, rfl, hr6, hb6⟩
              have hg6 := Hgn2.out (by trivial) (by omega)
              have hsm := same_any A4 A6 _ _ c4 c6 w6 (Hr5.out.below hb6) hr6 (by rw [hg6]; omega) (by rw [hg6]; omega)
              rw [hg6, decide_eq_true rfl] at hsm
              have HB6 := Lib.hid (HB5.out.trans (hb6.mono HB5.out.size)); have Hsm := Lib.hid hsm; clear hb6 z0 z1 z2 zf hr6 hg6 hsm
              go_wp2_with fail
              refine Hsm.out.mono ?_
              rintro e w7 ⟨rfl, d7, rfl⟩
              go_wp2_with fail
              go_ret
              exact ⟨rfl, below_drewN HB6.out d7⟩
            · have hne : x0 ≠ n0 ∨ y0 ≠ n1 := by omega
              go_wp2_with fail
              refine (Hlo2.out hne).mono ?_
              rintro e w4 ⟨rfl, hb4⟩
              have hbx4 := (hb4.block _ (lt_of_block Hbx3.out)).trans Hbx3.out
              have hB4 := HB3.out.trans (hb4.mono HB3.out.size)
              have p0' := (hB4.cell (p := ⟨b5, o5 + 0, none⟩) hb5).trans p0
              have p1' := (hB4.cell (p := ⟨b5, o5 + (L - 1), none⟩) hb5).trans p1
              rw [Nat.add_zero] at p0'
              have z0 := cell_of_row w4 _ 0 _ _ _ hbx4
              have z1 := cell_of_row w4 _ 1 _ _ _ hbx4
              have z2 := cell_of_row w4 _ 2 _ _ _ hbx4
              have zf := fun j => frozen_of_row w4 _ j _ _ hbx4
              have HB4 := Lib.hid hB4; clear hb4 hbx4 hB4
              by_cases hx1 : x0 = n0
              · have hy1 : y0 ≠ n1 := by omega
                have hq1 : ((x0 : Int) != (n0 : Int)) = false := by simp; omega
                have hq2 : ((y0 : Int) != (n1 : Int)) = true := by simp; omega
                clear hne hok hx1 hy1
                go_wp2_with fail
                refine (alive09 _).mono ?_
                rintro e w5 ⟨rfl, hb5'⟩
                have HB5 := Lib.hid (HB4.out.trans (hb5'.mono HB4.out.size)); clear hb5' z0 z1 z2 zf p0' p1'
                go_wp2_with fail
                go_ret
                exact ⟨rfl, HB5.out⟩
              · have hq1 : ((x0 : Int) != (n0 : Int)) = true := by simp; omega
                clear hne hok hx1
                go_wp2_with fail
                refine (alive09 _).mono ?_
                rintro e w5 ⟨rfl, hb5'⟩
                have HB5 := Lib.hid (HB4.out.trans (hb5'.mono HB4.out.size)); clear hb5' z0 z1 z2 zf p0' p1'
                go_wp2_with fail
                go_ret
                exact ⟨rfl, HB5.out⟩
          · exact absurd HR.out hno
    · go_wp2_with fail
      refine (alive09 _).mono ?_
      rintro e w3 ⟨rfl, hb3⟩
      have HB3 := Lib.hid (HB2.out.trans (hb3.mono HB2.out.size)); clear hb3 z0 z1 z2 zf hr
      go_wp2_with fail
      go_ret
      exact ⟨rfl, HB3.out⟩

set_option maxRecDepth 100000 in
theorem NetGradients_walk {H : Type} {enc : TypeId × Value → H} {base : Nat} {v0 v1 v2 : Value} {d0 d1 d2 : DataW H} {p0 p1 p2 : List MemPlace} (W : World)
    (o0 : Value.okWide Try.prog W .any base 25 v0) (h0 : DataW.Trod enc Try.prog W 0 (fun _ => true) true 25 v0 d0 p0) (z0 : Light Try.prog 25 d0)
    (o1 : Value.okWide Try.prog W .any base 23 v1) (h1 : DataW.Trod enc Try.prog W 0 (fun _ => true) true 23 v1 d1 p1) (z1 : Light Try.prog 23 d1)
    (o2 : Value.okWide Try.prog W .any base 23 v2) (h2 : DataW.Trod enc Try.prog W 0 (fun _ => true) true 23 v2 d2 p2) (z2 : Light Try.prog 23 d2) :
    Calls Try.prog 3 #[v0, v1, v2] W fun e w' => e = .returned (.bool true) ∧ Below W.heap.size W w' := by
  obtain ⟨As, Ap, sz, ps, cs, cp, q, rfl, a1, a2⟩ := open_rnet o0 h0 z0
  obtain ⟨X, x, cx, rfl, a3⟩ := open_i64s o1 h1 z1
  obtain ⟨Y, y, cy, rfl, a4⟩ := open_i64s o2 h2 z2
  exact gradients_core As Ap X Y sz ps x y cs cp cx cy q W a1 a2 a3 a4
end Go.Proofs.Ytfiojofcafjfeaa
