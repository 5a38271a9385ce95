/- The walk of the law NetBiases. -/
import Derived.Test.YtfiojofcafjfeaaPerfPlain
import Derived.Test.YtfiojofcafjfeaaOpnNet
import Derived.Test.YtfiojofcafjfeaaNetG
set_option linter.unusedSimpArgs false
set_option linter.unusedVariables false
namespace Go.Proofs.Ytfiojofcafjfeaa
open Go.RowKit

set_option maxRecDepth 100000 in
set_option maxHeartbeats 2000000 in
theorem biases_core (As Ap X Y : Option Addr) (sz ps x y : List Int) (cs cp cx cy : Nat) (q : Int) (W : World) (hs : NumsIn W As sz cs) (hp : NumsIn W Ap ps cp) (hx : NumsIn W X x cx) (hy : NumsIn W Y y cy) :
    Calls Try.prog 8 #[.agg #[.slice As sz.length cs, .slice Ap ps.length cp, .int .i64 q], .slice X x.length cx, .slice Y y.length cy] W fun e w' => e = .returned (.bool true) ∧ Below W.heap.size W w' := by
  have hfw := fun w' (k : Below W.heap.size W w') => rfew9_any As Ap sz ps.length cs cp q w' (hs.hr.below k) hs.hl hp.hl
  have hrt := fun w' (k : Below W.heap.size W w') => rright_any As Ap sz ps cs cp q w' (hs.hr.below k) hs.hl hp.hl
  have hln := fun w' (k : Below W.heap.size W w') => lnew_any As Ap sz ps cs cp q w' (hs.hr.below k) (hp.hr.below k) hs.hc hs.hm
  have hrk := fun b w' (k : Below W.heap.size W w') (hN : NetAt 91 60 w' b sz ps q) (h : RightN sz ps q) (h1 : x.length = szN sz 0) => run_ok b sz ps q X x cx w' hN h.1 hp.hw (hx.hr.below k) h1 hx.hw
  have hgk := fun b w' (k : Below W.heap.size W w') (hN : NetAt 91 60 w' b sz ps q) (h : RightN sz ps q) (h1 : x.length = szN sz 0) (h2 : y.length = szN sz (sz.length - 1)) => grad_ok b sz ps q X Y x y cx cy w' hN h.1 hp.hw (hx.hr.below k) h1 hx.hw (hy.hr.below k) h2
  have hgb := fun (h1 : x.length = szN sz 0) (hl : 2 ≤ sz.length) i (hi : i < szN sz (sz.length - 1)) => grad_bias (ps := ps) (q := q) (y := y) h1 hl hi
  have hvl := fun (h1 : x.length = szN sz 0) => valL_len (sz := sz) (ps := ps) (q := q) h1 (sz.length - 1)
  have hgl := fun (h1 : x.length = szN sz 0) (hl : 1 ≤ sz.length) => gradL_len (ps := ps) (q := q) (y := y) h1 hl
  have hll := fun (hl : 2 ≤ sz.length) => last_le sz hl
  have hmN := fun (h : RightN sz ps q) => h.2.2.2
  have hsr := hs.hr
  have hyr := hy.hr
  obtain ⟨L, hL⟩ : ∃ L, sz.length = L := ⟨_, rfl⟩
  obtain ⟨m, hm⟩ : ∃ m, ps.length = m := ⟨_, rfl⟩
  obtain ⟨x0, hx0⟩ : ∃ x0, x.length = x0 := ⟨_, rfl⟩
  obtain ⟨y0, hy0⟩ : ∃ y0, y.length = y0 := ⟨_, rfl⟩
  have hlx := hx.hl
  have hly := hy.hl
  rw [hL] at hfw hrt hln hrk hgk hgb hvl hgl hll hmN ⊢
  rw [hm] at hfw hrt hln hmN ⊢
  rw [hx0] at hrk hgk hgb hvl hgl hlx ⊢
  rw [hy0] at hgk hly ⊢
  have Hfw := Lib.hid hfw; have Hrt := Lib.hid hrt; have Hln := Lib.hid hln; have Hrk := Lib.hid hrk; have Hgk := Lib.hid hgk; have Hgb := Lib.hid hgb; have Hvl := Lib.hid hvl; have Hgl := Lib.hid hgl; have Hll := Lib.hid hll; have Hsr := Lib.hid hsr; have Hyr := Lib.hid hyr; have HL := Lib.hid hL; have HmN := Lib.hid hmN; have Hy0 := Lib.hid hy0
  clear hfw hrt hln hrk hgk hgb hvl hgl hll hs hp hx hy hsr hyr hL hm hx0 hmN hy0
  go_enter Try.func8, Try.ntmps8
  go_wp2_with fail
  refine (Hfw.out _ ?_).mono ?_
  · (focus (repeat' (first | (with_reducible exact Below.refl _ _) | (with_reducible assumption) | (with_reducible refine Below.setCell ?_ ?_ _) | (with_reducible refine Below.alloc ?_ ?_ _) | (with_reducible refine below_drewN ?_ _) | (with_reducible refine Below.drew ?_) | (with_reducible exact Nat.le_refl _) | omega | (simp; done) | (simp; omega))))
  rintro e w1 ⟨⟨v, rfl, _⟩, hb1⟩
  have hbx1 := (hb1.block W.heap.size (by simp)).trans (heap_alloc_new W (.cells #[.slice As L cs, .slice Ap m cp, .int .i64 q] 25))
  have hB1 : Below W.heap.size W w1 := ((Below.refl _ W).alloc (Nat.le_refl _) _).trans (hb1.mono (by simp))
  have z0 := cell_of_row w1 _ 0 _ _ _ hbx1
  have z1 := cell_of_row w1 _ 1 _ _ _ hbx1
  have z2 := cell_of_row w1 _ 2 _ _ _ hbx1
  have zf := fun j => frozen_of_row w1 _ j _ _ hbx1
  have Hbx1 := Lib.hid hbx1; have HB1 := Lib.hid hB1; clear hb1 hbx1 hB1
  cases v with
  | false =>
    go_wp2_with fail
    refine (alive09 _).mono ?_
    rintro e w2 ⟨rfl, hb2⟩
    have HB2 := Lib.hid (HB1.out.trans (hb2.mono HB1.out.size)); clear hb2 z0 z1 z2 zf
    go_wp2_with fail
    go_ret
    exact ⟨rfl, HB2.out⟩
  | true =>
    go_wp2_with fail
    refine (Hrt.out _ HB1.out).mono ?_
    rintro e w2 ⟨h, hb2⟩
    have hbx2 := (hb2.block _ (lt_of_block Hbx1.out)).trans Hbx1.out
    have hB2 := HB1.out.trans (hb2.mono HB1.out.size)
    clear z0 z1 z2 zf
    have z0 := cell_of_row w2 _ 0 _ _ _ hbx2
    have z1 := cell_of_row w2 _ 1 _ _ _ hbx2
    have z2 := cell_of_row w2 _ 2 _ _ _ hbx2
    have zf := fun j => frozen_of_row w2 _ j _ _ hbx2
    have Hbx2 := Lib.hid hbx2; have HB2 := Lib.hid hB2; clear hb2 hbx2 hB2
    rcases h with ⟨hr, rfl⟩ | ⟨hr, rfl⟩
    · have HR := Lib.hid hr; clear hr
      have hg := HR.out.1.1
      have hl16 := hg.1
      rw [HL.out] at hl16
      have s0 := hg.at (k := 0) (by have := HL.out; omega)
      have s1 := hg.at (k := L - 1) (by have := HL.out; omega)
      obtain ⟨b5, o5, rfl, p0⟩ := Hsr.out.num (show 0 < sz.length by have := HL.out; omega)
      obtain ⟨_, _, e', p1⟩ := Hsr.out.num (show L - 1 < sz.length by have := HL.out; omega)
      injection e' with e'; injection e' with e1 e2 _; subst e1; subst e2
      rw [s0.2.2] at p0
      rw [s1.2.2] at p1
      have hb5 : b5 < W.heap.size := lt_of_cell p0
      have hLw2 : (L : Int) - 1 = ((L - 1 : Nat) : Int) := by omega
      have hLw : IntKind.i64.wrap ((L : Int) - 1) = ((L - 1 : Nat) : Int) := by rw [IntWalk.i64_in _ (by omega)]; omega
      rw [hLw2] at hLw
      have hLi : ((L - 1 : Nat) : Int) < L := by omega
      have hLn : L - 1 < L := by omega
      have hL0 : 0 < L := by omega
      have p0' := (HB2.out.cell (p := ⟨b5, o5 + 0, none⟩) hb5).trans p0
      have p1' := (HB2.out.cell (p := ⟨b5, o5 + (L - 1), none⟩) hb5).trans p1
      rw [Nat.add_zero] at p0'
      have hNb := HR.out.1.2
      rw [HL.out] at hNb
      obtain ⟨n0, hn0⟩ : ∃ n0, szN sz 0 = n0 := ⟨_, rfl⟩
      obtain ⟨n1, hn1⟩ : ∃ n1, szN sz (L - 1) = n1 := ⟨_, rfl⟩
      obtain ⟨N, hN0⟩ : ∃ N, cntN sz (L - 1) = N := ⟨_, rfl⟩
      have hrk := Hrk.out
      have hgk := Hgk.out
      have hgb := Hgb.out
      have hvl := Hvl.out
      have hgl := Hgl.out
      have hll := Hll.out (by omega)
      have hmN := HmN.out HR.out
      rw [hn0] at hrk hgk hgb hvl hgl p0'
      rw [hn1] at hrk hgk hgb hvl hll p1'
      rw [hN0] at hgk hgb hgl hmN hNb hll
      subst hmN
      have Hrk2 := Lib.hid hrk; have Hgk2 := Lib.hid hgk; have Hgb2 := Lib.hid hgb; have Hvl2 := Lib.hid hvl; have Hgl2 := Lib.hid hgl
      clear hrk hgk hgb hvl hgl s0 s1 hg hn0 hn1 hN0 p0 p1
      by_cases hok : x0 = n0
      · by_cases hok1 : y0 = n1
        · obtain rfl := hok1
          have Hok := Lib.hid hok
          have hq1 : ((x0 : Int) != (n0 : Int)) = false := by simp; omega
          have hq2 : ((y0 : Int) != (y0 : Int)) = false := by simp
          clear hok
          go_wp2_with fail
          refine (Hln.out _ HB2.out).mono ?_
          rintro e w3 ⟨hb3, h⟩
          rcases h with ⟨_, b, rfl, hN, _⟩ | ⟨hno, _⟩
          · have hbx3 := (hb3.block _ (lt_of_block Hbx2.out)).trans Hbx2.out
            have hB3 := HB2.out.trans (hb3.mono HB2.out.size)
            have hrk3 := Hrk2.out b w3 hB3 hN HR.out Hok.out
            clear z0 z1 z2 zf p0' p1'
            have HN := Lib.hid hN; have Hbx3 := Lib.hid hbx3; have HB3 := Lib.hid hB3; have Hrk3 := Lib.hid hrk3; clear hN hb3 hbx3 hB3 hrk3
            go_wp2_with fail
            refine Hrk3.out.mono ?_
            rintro e w4 ⟨A4, c4, rfl, hr4, hc4, hb4⟩
            have hbx4 := (hb4.block _ (lt_of_block Hbx3.out)).trans Hbx3.out
            have hB4 := HB3.out.trans (hb4.mono HB3.out.size)
            have hN4 := HN.out.below hb4
            have hgk4 := Hgk2.out b w4 hB4 hN4 HR.out Hok.out (by trivial)
            have Hbx4 := Lib.hid hbx4; have HB4 := Lib.hid hB4; have Hr4 := Lib.hid hr4; have Hgk4 := Lib.hid hgk4; clear hN4 hb4 hbx4 hB4 hr4 hgk4 hc4
            go_wp2_with fail
            refine Hgk4.out.mono ?_
            rintro e w5 ⟨A5, c5, rfl, hr5, hb5'⟩
            have hbx5 := (hb5'.block _ (lt_of_block Hbx4.out)).trans Hbx4.out
            have hB5 := HB4.out.trans (hb5'.mono HB4.out.size)
            have hr45 := Hr4.out.below hb5'
            have hr5' := Rd.own hr5
            have z0 := cell_of_row w5 _ 0 _ _ _ hbx5
            have z1 := cell_of_row w5 _ 1 _ _ _ hbx5
            have z2 := cell_of_row w5 _ 2 _ _ _ hbx5
            have zf := fun j => frozen_of_row w5 _ j _ _ hbx5
            have hy5 := Hyr.out.below hB5
            have HB5 := Lib.hid hB5; have Hr45 := Lib.hid hr45; have Hr5 := Lib.hid hr5'; have Hy5 := Lib.hid hy5; clear hb5' hbx5 hB5 hr45 hr5 hr5' hy5
            go_wp2_with fail
            clear z0 z1 z2 zf
            go_loopw [94] (fun i wr => ∃ k : Nat, k ≤ y0 ∧ i = .int .i64 k ∧ ∃ d, wr = w5.drewN d) (fun i _ => y0 - (intOf i).toNat)
            case atStart => exact ⟨0, Nat.zero_le _, rfl, 0, rfl⟩
            case round =>
              obtain ⟨k, hk, rfl, d, rfl⟩ := hrel
              by_cases hlt : k < y0
              · have hb := Hgb2.out Hok.out (by omega) k hlt
                have hv := Hvl2.out Hok.out
                have hgl := Hgl2.out Hok.out (by omega)
                obtain ⟨b4, o4, rfl, p4⟩ := Hr45.out.num (show k < _ by rw [hv]; exact hlt)
                obtain ⟨b6, o6, rfl, p6⟩ := Hr5.out.num (show m - y0 + k < _ by rw [hgl]; omega)
                obtain ⟨b7, o7, rfl, p7⟩ := Hy5.out.num (show k < _ by rw [Hy0.out]; exact hlt)
                rw [hb] at p6
                clear hb hv hgl
                obtain ⟨v1, hv1⟩ : ∃ v1, nth (valL sz ps q x (L - 1)) k = v1 := ⟨_, rfl⟩
                obtain ⟨v2, hv2⟩ : ∃ v2, nth y k = v2 := ⟨_, rfl⟩
                rw [hv1] at p4 p6
                rw [hv2] at p6 p7
                clear hv1 hv2
                have e0 : (0 : Int) ≤ (m : Int) - y0 := by omega
                have e1 : IntKind.i64.wrap ((m : Int) - (y0 : Int)) = (m : Int) - y0 := IntWalk.i64_in _ (by omega)
                have e2 : IntKind.i64.wrap ((m : Int) - y0 + k) = (m : Int) - y0 + k := IntWalk.i64_in _ (by omega)
                have e3 : 0 ≤ (m : Int) - y0 + k := by omega
                have e4 : ((m : Int) - y0 + k).toNat = m - y0 + k := by omega
                have e5 : (m : Int) - y0 + k < m := by omega
                have e6 : (k : Int) < y0 := by omega
                go_wp2_with fail
                go_quiet (fail)
                go_wp2_with fail
                exact ⟨⟨k + 1, by omega, by go_num, _, rfl⟩, by simp [intOf]; omega⟩
              · obtain rfl : k = y0 := by omega
                go_wp2_with fail
                refine (trace_nil _ _).mono ?_
                rintro e w6 ⟨rfl, rfl⟩
                go_wp2_with fail
                refine (grad_nil _ _ _).mono ?_
                rintro e w6 ⟨rfl, rfl⟩
                go_wp2_with fail
                refine (loss_nil _ _ _).mono ?_
                rintro e w6 ⟨rfl, rfl⟩
                go_wp2_with fail
                refine (alive09 _).mono ?_
                rintro e w9 ⟨rfl, hb9⟩
                have hB9 : Below W.heap.size W w9 := (HB5.out.trans (below_drewN (Below.refl _ _) d)).trans (hb9.mono HB5.out.size)
                have HB9 := Lib.hid hB9; clear hb9 hB9
                go_wp2_with fail
                refine (params_nil _).mono ?_
                rintro e w10 ⟨rfl, rfl⟩
                go_wp2_with fail
                go_ret
                exact ⟨rfl, HB9.out⟩
          · exact absurd HR.out hno
        · have hq1 : ((x0 : Int) != (n0 : Int)) = false := by simp; omega
          have hq2 : ((y0 : Int) != (n1 : Int)) = true := by simp; omega
          clear hok hok1
          go_wp2_with fail
          refine (alive09 _).mono ?_
          rintro e w3 ⟨rfl, hb3⟩
          have HB3 := Lib.hid (HB2.out.trans (hb3.mono HB2.out.size)); clear hb3 z0 z1 z2 zf p0' p1'
          go_wp2_with fail
          go_ret
          exact ⟨rfl, HB3.out⟩
      · have hq1 : ((x0 : Int) != (n0 : Int)) = true := by simp; omega
        clear hok
        go_wp2_with fail
        refine (alive09 _).mono ?_
        rintro e w3 ⟨rfl, hb3⟩
        have HB3 := Lib.hid (HB2.out.trans (hb3.mono HB2.out.size)); clear hb3 z0 z1 z2 zf p0' p1'
        go_wp2_with fail
        go_ret
        exact ⟨rfl, HB3.out⟩
    · go_wp2_with fail
      refine (alive09 _).mono ?_
      rintro e w3 ⟨rfl, hb3⟩
      have HB3 := Lib.hid (HB2.out.trans (hb3.mono HB2.out.size)); clear hb3 z0 z1 z2 zf hr
      go_wp2_with fail
      go_ret
      exact ⟨rfl, HB3.out⟩

set_option maxRecDepth 100000 in
theorem NetBiases_walk {H : Type} {enc : TypeId × Value → H} {base : Nat} {v0 v1 v2 : Value} {d0 d1 d2 : DataW H} {p0 p1 p2 : List MemPlace} (W : World)
    (o0 : Value.okWide Try.prog W .any base 25 v0) (h0 : DataW.Trod enc Try.prog W 0 (fun _ => true) true 25 v0 d0 p0) (z0 : Light Try.prog 25 d0)
    (o1 : Value.okWide Try.prog W .any base 23 v1) (h1 : DataW.Trod enc Try.prog W 0 (fun _ => true) true 23 v1 d1 p1) (z1 : Light Try.prog 23 d1)
    (o2 : Value.okWide Try.prog W .any base 23 v2) (h2 : DataW.Trod enc Try.prog W 0 (fun _ => true) true 23 v2 d2 p2) (z2 : Light Try.prog 23 d2) :
    Calls Try.prog 8 #[v0, v1, v2] W fun e w' => e = .returned (.bool true) ∧ Below W.heap.size W w' := by
  obtain ⟨As, Ap, sz, ps, cs, cp, q, rfl, a1, a2⟩ := open_rnet o0 h0 z0
  obtain ⟨X, x, cx, rfl, a3⟩ := open_i64s o1 h1 z1
  obtain ⟨Y, y, cy, rfl, a4⟩ := open_i64s o2 h2 z2
  exact biases_core As Ap X Y sz ps x y cs cp cx cy q W a1 a2 a3 a4
end Go.Proofs.Ytfiojofcafjfeaa
