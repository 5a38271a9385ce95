/- The walk of the law NetTraces. -/
import Derived.Test.YtfiojofcafjfeaaOpnNet
namespace Go.Proofs.Ytfiojofcafjfeaa
open Go.RowKit

set_option maxRecDepth 100000 in
set_option maxHeartbeats 2000000 in
theorem traces_core (As Ap X : Option Addr) (sz ps x : List Int) (cs cp cx : Nat) (q : Int) (W : World) (hs : NumsIn W As sz cs) (hp : NumsIn W Ap ps cp) (hx : NumsIn W X x cx) :
    Calls Try.prog 5 #[.agg #[.slice As sz.length cs, .slice Ap ps.length cp, .int .i64 q], .slice X x.length cx] W fun e w' => e = .returned (.bool true) ∧ Below W.heap.size W w' := by
  have hfw := fun w' (k : Below W.heap.size W w') => rfew9_any As Ap sz ps.length cs cp q w' (hs.hr.below k) hs.hl hp.hl
  have hrt := fun w' (k : Below W.heap.size W w') => rright_any As Ap sz ps cs cp q w' (hs.hr.below k) hs.hl hp.hl
  have hln := fun w' (k : Below W.heap.size W w') => lnew_any As Ap sz ps cs cp q w' (hs.hr.below k) (hp.hr.below k) hs.hc hs.hm
  have hRN : RightN sz ps q → ∀ w', Below W.heap.size W w' → RNet w' As Ap sz ps cs := fun h w' k => ⟨hs.hr.below k, hp.hr.below k, h.1, h.2.2.2, hs.hc, hp.hw⟩
  have htk := fun b w' (k : Below W.heap.size W w') (hN : NetAt 91 60 w' b sz ps q) (h : RightN sz ps q) (h1 : x.length = szN sz 0) => trace_ok b sz ps q X x cx w' hN h.1 hp.hw (hx.hr.below k) h1 hx.hw
  have htn := fun b w' (hN : NetAt 91 60 w' b sz ps q) (h : RightN sz ps q) (h1 : x.length ≠ szN sz 0) => trace_no b sz ps q X x.length cx w' hN h.1 h1
  have huk := fun b w' (k : Below W.heap.size W w') (hN : NetAt 91 60 w' b sz ps q) (h : RightN sz ps q) (h1 : x.length = szN sz 0) => run_ok b sz ps q X x cx w' hN h.1 hp.hw (hx.hr.below k) h1 hx.hw
  have hun := fun b w' (hN : NetAt 91 60 w' b sz ps q) (h : RightN sz ps q) (h1 : x.length ≠ szN sz 0) => run_no b sz ps q X x.length cx w' hN h.1 h1
  have hrl := fun w' (k : Below W.heap.size W w') (h : RightN sz ps q) (h1 : x.length = szN sz 0) => rtrace_any As Ap X sz ps x cs cp cx q w' (hRN h w' k) (hx.hr.below k) h1 hx.hw hx.hc
  have hvl := fun (h1 : x.length = szN sz 0) j => valL_len (sz := sz) (ps := ps) (q := q) h1 j
  have hsr := hs.hr
  obtain ⟨L, hL⟩ : ∃ L, sz.length = L := ⟨_, rfl⟩
  obtain ⟨m, hm⟩ : ∃ m, ps.length = m := ⟨_, rfl⟩
  obtain ⟨x0, hx0⟩ : ∃ x0, x.length = x0 := ⟨_, rfl⟩
  have hlx := hx.hl
  rw [hL] at hfw hrt hln hrl ⊢
  try rw [hL] at htk
  try rw [hL] at htn
  try rw [hL] at huk
  try rw [hL] at hun
  rw [hm] at hfw hrt hln hrl ⊢
  rw [hx0] at htk htn huk hun hrl hlx hvl ⊢
  have Hfw := Lib.hid hfw; have Hrt := Lib.hid hrt; have Hln := Lib.hid hln; have Htk := Lib.hid htk; have Htn := Lib.hid htn; have Huk := Lib.hid huk; have Hun := Lib.hid hun; have Hrl := Lib.hid hrl; have Hsr := Lib.hid hsr; have HL := Lib.hid hL; have Hvl := Lib.hid hvl
  clear hfw hrt hln htk htn huk hun hrl hRN hs hp hx hsr hL hm hx0 hvl
  go_enter Try.func5, Try.ntmps5
  go_wp2_with fail
  refine (Hfw.out _ ?_).mono ?_
  · (focus (repeat' (first | (with_reducible exact Below.refl _ _) | (with_reducible assumption) | (with_reducible refine Below.setCell ?_ ?_ _) | (with_reducible refine Below.alloc ?_ ?_ _) | (with_reducible refine below_drewN ?_ _) | (with_reducible refine Below.drew ?_) | (with_reducible exact Nat.le_refl _) | omega | (simp; done) | (simp; omega))))
  rintro e w1 ⟨⟨v, rfl, _⟩, hb1⟩
  have hbx1 := (hb1.block W.heap.size (by simp)).trans (heap_alloc_new W (.cells #[.slice As L cs, .slice Ap m cp, .int .i64 q] 25))
  have hB1 : Below W.heap.size W w1 := ((Below.refl _ W).alloc (Nat.le_refl _) _).trans (hb1.mono (by simp))
  have z0 := cell_of_row w1 _ 0 _ _ _ hbx1
  have z1 := cell_of_row w1 _ 1 _ _ _ hbx1
  have z2 := cell_of_row w1 _ 2 _ _ _ hbx1
  have zf := fun j => frozen_of_row w1 _ j _ _ hbx1
  have Hbx1 := Lib.hid hbx1; have HB1 := Lib.hid hB1; clear hb1 hbx1 hB1
  cases v with
  | false =>
    go_wp2_with fail
    refine (alive09 _).mono ?_
    rintro e w2 ⟨rfl, hb2⟩
    have HB2 := Lib.hid (HB1.out.trans (hb2.mono HB1.out.size)); clear hb2 z0 z1 z2 zf
    go_wp2_with fail
    go_ret
    exact ⟨rfl, HB2.out⟩
  | true =>
    go_wp2_with fail
    refine (Hrt.out _ HB1.out).mono ?_
    rintro e w2 ⟨h, hb2⟩
    have hbx2 := (hb2.block _ (lt_of_block Hbx1.out)).trans Hbx1.out
    have hB2 := HB1.out.trans (hb2.mono HB1.out.size)
    clear z0 z1 z2 zf
    have z0 := cell_of_row w2 _ 0 _ _ _ hbx2
    have z1 := cell_of_row w2 _ 1 _ _ _ hbx2
    have z2 := cell_of_row w2 _ 2 _ _ _ hbx2
    have zf := fun j => frozen_of_row w2 _ j _ _ hbx2
    have Hbx2 := Lib.hid hbx2; have HB2 := Lib.hid hB2; clear hb2 hbx2 hB2
    rcases h with ⟨hr, rfl⟩ | ⟨hr, rfl⟩
    · have HR := Lib.hid hr; clear hr
      by_cases hx6 : 600 < x0
      · go_wp2_with fail
        refine (alive09 _).mono ?_
        rintro e w3 ⟨rfl, hb3⟩
        have HB3 := Lib.hid (HB2.out.trans (hb3.mono HB2.out.size)); clear hb3 z0 z1 z2 zf
        go_wp2_with fail
        go_ret
        exact ⟨rfl, HB3.out⟩
      · go_wp2_with fail
        refine (Hln.out _ HB2.out).mono ?_
        rintro e w3 ⟨hb3, h⟩
        rcases h with ⟨_, b, rfl, hN, _⟩ | ⟨hno, _⟩
        · have hbx3 := (hb3.block _ (lt_of_block Hbx2.out)).trans Hbx2.out
          have hB3 := HB2.out.trans (hb3.mono HB2.out.size)
          clear z0 z1 z2 zf
          have HN := Lib.hid hN; have Hbx3 := Lib.hid hbx3; have HB3 := Lib.hid hB3; clear hN hb3 hbx3 hB3
          have hg := HR.out.1.1
          have hl16 := hg.1
          rw [HL.out] at hl16
          have s0 := hg.at (k := 0) (by have := HL.out; omega)
          have s1 := hg.at (k := L - 1) (by have := HL.out; omega)
          obtain ⟨b5, o5, rfl, p0⟩ := Hsr.out.num (show 0 < sz.length by have := HL.out; omega)
          rw [s0.2.2] at p0
          have hb5 : b5 < W.heap.size := lt_of_cell p0
          have hLw2 : (L : Int) - 1 = ((L - 1 : Nat) : Int) := by omega
          have hLw : IntKind.i64.wrap ((L : Int) - 1) = ((L - 1 : Nat) : Int) := by rw [IntWalk.i64_in _ (by omega)]; omega
          rw [hLw2] at hLw
          have hLi : ((L - 1 : Nat) : Int) < L := by omega
          have hLn : L - 1 < L := by omega
          have hL0 : 0 < L := by omega
          obtain ⟨n0, hn0⟩ : ∃ n0, szN sz 0 = n0 := ⟨_, rfl⟩
          have htk := Htk.out b w3 HB3.out HN.out HR.out
          have htn := Htn.out b w3 HN.out HR.out
          have huk := Huk.out b
          have hun := Hun.out b
          have hrl := fun w' k => Hrl.out w' k HR.out
          have hvl := Hvl.out
          rw [hn0] at htk htn huk hun hrl hvl p0
          have Htk2 := Lib.hid htk; have Htn2 := Lib.hid htn; have Huk2 := Lib.hid huk; have Hun2 := Lib.hid hun; have Hrl2 := Lib.hid hrl; have Hvl2 := Lib.hid hvl
          clear htk htn huk hun hrl hvl s0 hg hn0
          by_cases hok : x0 = n0
          · have Hok := Lib.hid hok
            have hq1 : ((x0 : Int) != (n0 : Int)) = false := by simp; omega
            clear hok
            go_wp2_with fail
            refine (Htk2.out Hok.out).mono ?_
            rintro e w4 ⟨A4, c4, vals, rfl, hr4, hva4, hc4, hb4⟩
            have hbx4 := (hb4.block _ (lt_of_block Hbx3.out)).trans Hbx3.out
            have hB4 := HB3.out.trans (hb4.mono HB3.out.size)
            have huk4 := Huk2.out w4 hB4 (HN.out.below hb4) HR.out Hok.out
            have Huk4 := Lib.hid huk4; have Hr4 := Lib.hid hr4; have Hva4 := Lib.hid hva4; have Hbx4 := Lib.hid hbx4; have HB4 := Lib.hid hB4; clear hb4 hbx4 hB4 huk4 hr4 hva4 hc4
            go_wp2_with fail
            refine Huk4.out.mono ?_
            rintro e w5 ⟨A5, c5, rfl, hr5, hc5, hb5'⟩
            have hbx5 := (hb5'.block _ (lt_of_block Hbx4.out)).trans Hbx4.out
            have hB5 := HB4.out.trans (hb5'.mono HB4.out.size)
            have hr45 := Hr4.out.below hb5'
            have hva45 := Hva4.out.below hb5'
            have p0' := (hB5.cell (p := ⟨b5, o5 + 0, none⟩) hb5).trans p0
            rw [Nat.add_zero] at p0'
            have z0 := cell_of_row w5 _ 0 _ _ _ hbx5
            have z1 := cell_of_row w5 _ 1 _ _ _ hbx5
            have z2 := cell_of_row w5 _ 2 _ _ _ hbx5
            have zf := fun j => frozen_of_row w5 _ j _ _ hbx5
            have Hr45 := Lib.hid hr45; have Hva45 := Lib.hid hva45; have Hr5 := Lib.hid hr5; have HB5 := Lib.hid hB5; have hrl5 := Hrl2.out w5 hB5 Hok.out; have Hrl5 := Lib.hid hrl5; clear hb5' hbx5 hB5 hr45 hva45 hr5 hc5 hrl5
            go_wp2_with fail
            refine Hrl5.out.mono ?_
            rintro e w6 ⟨A6, c6, vals6, rfl, hr6, hva6, hc6, hb6⟩
            have hB6 := HB5.out.trans (hb6.mono HB5.out.size)
            have hr46 := Hr45.out.below hb6
            have hva46 := Hva45.out.below hb6
            have hr56 := Hr5.out.below hb6
            clear z0 z1 z2 zf p0'
            have hvL := Hvl2.out Hok.out (L - 1)
            obtain ⟨A7, c7, f1, f2, f3⟩ := hva6.2 (L - 1) hLn
            rw [hvL] at f1
            obtain ⟨b7, o7, hA7, p7⟩ := hr6 _ _ f1
            subst hA7
            have hsm := same_any A5 A7 _ _ c5 c7 w6 hr56 f3 (by rw [hvL]; omega) (by rw [hvL]; omega)
            rw [hvL, decide_eq_true rfl] at hsm
            have Hsm := Lib.hid hsm; have Hr6 := Lib.hid hr6; have Hva6 := Lib.hid hva6; have Hr46 := Lib.hid hr46; have Hva46 := Lib.hid hva46; have HB6 := Lib.hid hB6
            clear hb6 hB6 hr6 hva6 hc6 hr46 hva46 hr56 f1 f2 f3 hvL hsm
            go_wp2_with fail
            refine Hsm.out.mono ?_
            rintro e w7 ⟨rfl, d7, rfl⟩
            clear p7
            go_wp2_with fail
            go_loopw [100] (fun i wr => ∃ k : Nat, k ≤ L ∧ i = .int .i64 k ∧ ∃ d, wr = w6.drewN d) (fun i _ => L - (intOf i).toNat)
            case atStart => exact ⟨0, Nat.zero_le _, rfl, _, rfl⟩
            case round =>
              obtain ⟨k, hk, rfl, d, rfl⟩ := hrel
              by_cases hlt : k < L
              · have hvk := Hvl2.out Hok.out k
                have sk := HR.out.1.1.at (k := k) (by rw [HL.out]; exact hlt)
                obtain ⟨A8, c8, f1, f2, f3⟩ := Hva6.out.2 k hlt
                obtain ⟨A9, c9, g1, g2, g3⟩ := Hva46.out.2 k hlt
                obtain ⟨b8, o8, e8, p8⟩ := Hr6.out _ _ f1
                obtain ⟨b9, o9, e9, p9⟩ := Hr46.out _ _ g1
                injection e8 with e8; injection e8 with i1 i2 _; subst i1; subst i2
                subst e9
                have hsm := same_any A9 A8 _ _ c9 c8 (w6.drewN d) (g3.drewN d) (f3.drewN d) (by rw [hvk]; omega) (by rw [hvk]; omega)
                rw [decide_eq_true rfl] at hsm
                have Hsm2 := Lib.hid hsm
                clear hsm hvk sk f1 f2 f3 g1 g2 g3
                go_wp2_with fail
                refine Hsm2.out.mono ?_
                rintro e w9 ⟨rfl, d9, rfl⟩
                clear p8 p9
                go_wp2_with fail
                go_roundw
                case rel => exact ⟨k + 1, by omega, by go_num, _, by first | rfl | exact World.drewN_drewN _ _ _⟩
                case measure => simp [intOf]; omega
              · obtain rfl : k = L := by omega
                go_wp2_with fail
                refine (alive09 _).mono ?_
                rintro e w9 ⟨rfl, hb9⟩
                have hB9 : Below W.heap.size W w9 := (HB6.out.trans (below_drewN (Below.refl _ _) d)).trans (hb9.mono HB6.out.size)
                have HB9 := Lib.hid hB9; clear hb9 hB9
                go_wp2_with fail
                go_ret
                exact ⟨rfl, HB9.out⟩
          · have Hok := Lib.hid hok
            have hq1 : ((x0 : Int) != (n0 : Int)) = true := by simp; omega
            clear hok
            go_wp2_with fail
            refine (Htn2.out Hok.out).mono ?_
            rintro e w4 ⟨rfl, hb4⟩
            have hbx4 := (hb4.block _ (lt_of_block Hbx3.out)).trans Hbx3.out
            have hB4 := HB3.out.trans (hb4.mono HB3.out.size)
            have hun4 := Hun2.out w4 (HN.out.below hb4) HR.out Hok.out
            have Hun4 := Lib.hid hun4; have Hbx4 := Lib.hid hbx4; have HB4 := Lib.hid hB4; clear hb4 hbx4 hB4 hun4
            go_wp2_with fail
            refine Hun4.out.mono ?_
            rintro e w5 ⟨rfl, hb5'⟩
            have hbx5 := (hb5'.block _ (lt_of_block Hbx4.out)).trans Hbx4.out
            have hB5 := HB4.out.trans (hb5'.mono HB4.out.size)
            have p0' := (hB5.cell (p := ⟨b5, o5 + 0, none⟩) hb5).trans p0
            rw [Nat.add_zero] at p0'
            have z0 := cell_of_row w5 _ 0 _ _ _ hbx5
            have z1 := cell_of_row w5 _ 1 _ _ _ hbx5
            have z2 := cell_of_row w5 _ 2 _ _ _ hbx5
            have zf := fun j => frozen_of_row w5 _ j _ _ hbx5
            have HB5 := Lib.hid hB5; clear hb5' hbx5 hB5
            go_wp2_with fail
            refine (alive09 _).mono ?_
            rintro e w6 ⟨rfl, hb6⟩
            have HB6 := Lib.hid (HB5.out.trans (hb6.mono HB5.out.size)); clear hb6 z0 z1 z2 zf p0'
            go_wp2_with fail
            go_ret
            exact ⟨rfl, HB6.out⟩
        · exact absurd HR.out hno
    · go_wp2_with fail
      refine (alive09 _).mono ?_
      rintro e w3 ⟨rfl, hb3⟩
      have HB3 := Lib.hid (HB2.out.trans (hb3.mono HB2.out.size)); clear hb3 z0 z1 z2 zf hr
      go_wp2_with fail
      go_ret
      exact ⟨rfl, HB3.out⟩

set_option maxRecDepth 100000 in
theorem NetTraces_walk {H : Type} {enc : TypeId × Value → H} {base : Nat} {v0 v1 : Value} {d0 d1 : DataW H} {p0 p1 : List MemPlace} (W : World)
    (o0 : Value.okWide Try.prog W .any base 25 v0) (h0 : DataW.Trod enc Try.prog W 0 (fun _ => true) true 25 v0 d0 p0) (z0 : Light Try.prog 25 d0)
    (o1 : Value.okWide Try.prog W .any base 23 v1) (h1 : DataW.Trod enc Try.prog W 0 (fun _ => true) true 23 v1 d1 p1) (z1 : Light Try.prog 23 d1) :
    Calls Try.prog 5 #[v0, v1] W fun e w' => e = .returned (.bool true) ∧ Below W.heap.size W w' := by
  obtain ⟨As, Ap, sz, ps, cs, cp, q, rfl, a1, a2⟩ := open_rnet o0 h0 z0
  obtain ⟨X, x, cx, rfl, a3⟩ := open_i64s o1 h1 z1
  exact traces_core As Ap X sz ps x cs cp cx q W a1 a2 a3
end Go.Proofs.Ytfiojofcafjfeaa
