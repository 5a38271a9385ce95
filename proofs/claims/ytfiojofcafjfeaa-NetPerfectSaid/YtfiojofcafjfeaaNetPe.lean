/- The walk of the law NetPerfect. -/
import Derived.Test.YtfiojofcafjfeaaNetSelf
set_option linter.unusedSimpArgs false
set_option linter.unusedVariables false
namespace Go.Proofs.Ytfiojofcafjfeaa
open Go.RowKit

set_option maxRecDepth 100000 in
set_option maxHeartbeats 2000000 in
theorem perfect_core (As Ap X : Option Addr) (sz ps x : List Int) (cs cp cx : Nat) (q : Int) (W : World) (hs : NumsIn W As sz cs) (hp : NumsIn W Ap ps cp) (hx : NumsIn W X x cx) :
    Calls Try.prog 7 #[.agg #[.slice As sz.length cs, .slice Ap ps.length cp, .int .i64 q], .slice X x.length cx] W fun e w' => e = .returned (.bool true) ∧ Below W.heap.size W w' := by
  have hfw := fun w' (k : Below W.heap.size W w') => rfew9_any As Ap sz ps.length cs cp q w' (hs.hr.below k) hs.hl hp.hl
  have hrt := fun w' (k : Below W.heap.size W w') => rright_any As Ap sz ps cs cp q w' (hs.hr.below k) hs.hl hp.hl
  have hln := fun w' (k : Below W.heap.size W w') => lnew_any As Ap sz ps cs cp q w' (hs.hr.below k) (hp.hr.below k) hs.hc hs.hm
  have hRN : RightN sz ps q → ∀ w', Below W.heap.size W w' → RNet w' As Ap sz ps cs := fun h w' k => ⟨hs.hr.below k, hp.hr.below k, h.1, h.2.2.2, hs.hc, hp.hw⟩
  have hrk := fun b w' (k : Below W.heap.size W w') (hN : NetAt 91 60 w' b sz ps q) (h : RightN sz ps q) (h1 : x.length = szN sz 0) => run_ok b sz ps q X x cx w' hN h.1 hp.hw (hx.hr.below k) h1 hx.hw
  have hgk := fun b Y d w' (k : Below W.heap.size W w') (hN : NetAt 91 60 w' b sz ps q) (h : RightN sz ps q) (h1 : x.length = szN sz 0) (hY : Rd w' Y (nums .i64 (valL sz ps q x (sz.length - 1)))) => grad_self b sz ps q X Y x cx d w' hN h.1 hp.hw (hx.hr.below k) h1 hx.hw hY
  have hlk := fun b Y d w' (k : Below W.heap.size W w') (hN : NetAt 91 60 w' b sz ps q) (h : RightN sz ps q) (h1 : x.length = szN sz 0) (hY : Rd w' Y (nums .i64 (valL sz ps q x (sz.length - 1)))) => losses_self b sz ps q X Y x cx d w' hN h.1 hp.hw (hx.hr.below k) h1 hx.hw hY
  have hrl := fun Y d w' (k : Below W.heap.size W w') (h : RightN sz ps q) (h1 : x.length = szN sz 0) (hY : Rd w' Y (nums .i64 (valL sz ps q x (sz.length - 1)))) => rgrad_self As Ap X Y sz ps x cs cp cx d q w' (hRN h w' k) (hx.hr.below k) h1 hx.hw hx.hc hY
  have hmN := fun (h : RightN sz ps q) => h.2.2.2
  have hsr := hs.hr
  obtain ⟨L, hL⟩ : ∃ L, sz.length = L := ⟨_, rfl⟩
  obtain ⟨m, hm⟩ : ∃ m, ps.length = m := ⟨_, rfl⟩
  obtain ⟨x0, hx0⟩ : ∃ x0, x.length = x0 := ⟨_, rfl⟩
  have hlx := hx.hl
  rw [hL] at hfw hrt hln hrk hgk hlk hrl hmN ⊢
  rw [hm] at hfw hrt hln hrl hmN ⊢
  rw [hx0] at hrk hgk hlk hrl hlx ⊢
  have Hfw := Lib.hid hfw; have Hrt := Lib.hid hrt; have Hln := Lib.hid hln; have Hrk := Lib.hid hrk; have Hgk := Lib.hid hgk; have Hlk := Lib.hid hlk; have Hrl := Lib.hid hrl; have Hsr := Lib.hid hsr; have HL := Lib.hid hL; have HmN := Lib.hid hmN
  clear hfw hrt hln hrk hgk hlk hrl hRN hs hp hx hsr hL hm hx0 hmN
  go_enter Try.func7, Try.ntmps7
  go_wp2_with fail
  refine (Hfw.out _ ?_).mono ?_
  · (focus (repeat' (first | (with_reducible exact Below.refl _ _) | (with_reducible assumption) | (with_reducible refine Below.setCell ?_ ?_ _) | (with_reducible refine Below.alloc ?_ ?_ _) | (with_reducible refine below_drewN ?_ _) | (with_reducible refine Below.drew ?_) | (with_reducible exact Nat.le_refl _) | omega | (simp; done) | (simp; omega))))
  rintro e w1 ⟨⟨v, rfl, _⟩, hb1⟩
  have hbx1 := (hb1.block W.heap.size (by simp)).trans (heap_alloc_new W (.cells #[.slice As L cs, .slice Ap m cp, .int .i64 q] 25))
  have hB1 : Below W.heap.size W w1 := ((Below.refl _ W).alloc (Nat.le_refl _) _).trans (hb1.mono (by simp))
  have z0 := cell_of_row w1 _ 0 _ _ _ hbx1
  have z1 := cell_of_row w1 _ 1 _ _ _ hbx1
  have z2 := cell_of_row w1 _ 2 _ _ _ hbx1
  have zf := fun j => frozen_of_row w1 _ j _ _ hbx1
  have Hbx1 := Lib.hid hbx1; have HB1 := Lib.hid hB1; clear hb1 hbx1 hB1
  cases v with
  | false =>
    go_wp2_with fail
    refine (alive09 _).mono ?_
    rintro e w2 ⟨rfl, hb2⟩
    have HB2 := Lib.hid (HB1.out.trans (hb2.mono HB1.out.size)); clear hb2 z0 z1 z2 zf
    go_wp2_with fail
    go_ret
    exact ⟨rfl, HB2.out⟩
  | true =>
    go_wp2_with fail
    refine (Hrt.out _ HB1.out).mono ?_
    rintro e w2 ⟨h, hb2⟩
    have hbx2 := (hb2.block _ (lt_of_block Hbx1.out)).trans Hbx1.out
    have hB2 := HB1.out.trans (hb2.mono HB1.out.size)
    clear z0 z1 z2 zf
    have z0 := cell_of_row w2 _ 0 _ _ _ hbx2
    have z1 := cell_of_row w2 _ 1 _ _ _ hbx2
    have z2 := cell_of_row w2 _ 2 _ _ _ hbx2
    have zf := fun j => frozen_of_row w2 _ j _ _ hbx2
    have Hbx2 := Lib.hid hbx2; have HB2 := Lib.hid hB2; clear hb2 hbx2 hB2
    rcases h with ⟨hr, rfl⟩ | ⟨hr, rfl⟩
    · have HR := Lib.hid hr; clear hr
      have hg := HR.out.1.1
      have hl16 := hg.1
      rw [HL.out] at hl16
      have s0 := hg.at (k := 0) (by have := HL.out; omega)
      obtain ⟨b5, o5, rfl, p0⟩ := Hsr.out.num (show 0 < sz.length by have := HL.out; omega)
      rw [s0.2.2] at p0
      have hb5 : b5 < W.heap.size := lt_of_cell p0
      have hL0 : 0 < L := by omega
      have hL0i : (0 : Int) < L := by omega
      have p0' := (HB2.out.cell (p := ⟨b5, o5 + 0, none⟩) hb5).trans p0
      rw [Nat.add_zero] at p0'
      have hNb := HR.out.1.2
      rw [HL.out] at hNb
      obtain ⟨n0, hn0⟩ : ∃ n0, szN sz 0 = n0 := ⟨_, rfl⟩
      obtain ⟨n1, hn1⟩ : ∃ n1, szN sz (L - 1) = n1 := ⟨_, rfl⟩
      obtain ⟨N, hN0⟩ : ∃ N, cntN sz (L - 1) = N := ⟨_, rfl⟩
      have hrk := Hrk.out
      have hgk := Hgk.out
      have hlk := Hlk.out
      have hrl := Hrl.out
      have hmN := HmN.out HR.out
      rw [hn0] at hrk hgk hlk hrl p0'
      rw [hn1] at hrk hgk hlk hrl
      rw [hN0] at hgk hrl hmN hNb
      subst hmN
      have Hrk2 := Lib.hid hrk; have Hgk2 := Lib.hid hgk; have Hlk2 := Lib.hid hlk; have Hrl2 := Lib.hid hrl
      clear hrk hgk hlk hrl s0 hg hn0 hn1 hN0 p0
      by_cases hok : x0 = n0
      · have Hok := Lib.hid hok
        have hq1 : ((x0 : Int) != (n0 : Int)) = false := by simp; omega
        clear hok
        go_wp2_with fail
        refine (Hln.out _ HB2.out).mono ?_
        rintro e w3 ⟨hb3, h⟩
        rcases h with ⟨_, b, rfl, hN, _⟩ | ⟨hno, _⟩
        · have hbx3 := (hb3.block _ (lt_of_block Hbx2.out)).trans Hbx2.out
          have hB3 := HB2.out.trans (hb3.mono HB2.out.size)
          have hrk3 := Hrk2.out b w3 hB3 hN HR.out Hok.out
          clear z0 z1 z2 zf p0'
          have HN := Lib.hid hN; have Hbx3 := Lib.hid hbx3; have HB3 := Lib.hid hB3; have Hrk3 := Lib.hid hrk3; clear hN hb3 hbx3 hB3 hrk3
          go_wp2_with fail
          refine Hrk3.out.mono ?_
          rintro e w4 ⟨A4, c4, rfl, hr4, hc4, hb4⟩
          have hbx4 := (hb4.block _ (lt_of_block Hbx3.out)).trans Hbx3.out
          have hB4 := HB3.out.trans (hb4.mono HB3.out.size)
          have hN4 := HN.out.below hb4
          have hgk4 := Hgk2.out b A4 c4 w4 hB4 hN4 HR.out Hok.out hr4
          have HN4 := Lib.hid hN4; have Hbx4 := Lib.hid hbx4; have HB4 := Lib.hid hB4; have Hr4 := Lib.hid hr4; have Hgk4 := Lib.hid hgk4; clear hN4 hb4 hbx4 hB4 hr4 hgk4 hc4
          go_wp2_with fail
          refine Hgk4.out.mono ?_
          rintro e w5 ⟨A5, c5, rfl, hr5, hb5'⟩
          have hbx5 := (hb5'.block _ (lt_of_block Hbx4.out)).trans Hbx4.out
          have hB5 := HB4.out.trans (hb5'.mono HB4.out.size)
          have hN5 := HN4.out.below hb5'
          have hr45 := Hr4.out.below hb5'
          have hlk5 := Hlk2.out b A4 c4 w5 hB5 hN5 HR.out Hok.out hr45
          have Hbx5 := Lib.hid hbx5; have HB5 := Lib.hid hB5; have Hr45 := Lib.hid hr45; have Hlk5 := Lib.hid hlk5; have Hr5 := Lib.hid hr5; clear hN5 hb5' hbx5 hB5 hr45 hlk5 hr5
          go_wp2_with fail
          refine Hlk5.out.mono ?_
          rintro e w6 ⟨rfl, hb6⟩
          have hbx6 := (hb6.block _ (lt_of_block Hbx5.out)).trans Hbx5.out
          have hB6 := HB5.out.trans (hb6.mono HB5.out.size)
          have hr46 := Hr45.out.below hb6
          have hr56 := Hr5.out.below hb6
          have Hbx6 := Lib.hid hbx6; have HB6 := Lib.hid hB6; have Hr46 := Lib.hid hr46; have Hr56 := Lib.hid hr56; clear hb6 hbx6 hB6 hr46 hr56
          go_wp2_with fail
          refine (alive09 _).mono ?_
          rintro e w7 ⟨rfl, hb7⟩
          have hbx7 := (hb7.block _ (lt_of_block Hbx6.out)).trans Hbx6.out
          have hB7 := HB6.out.trans (hb7.mono HB6.out.size)
          have hr47 := Hr46.out.below hb7
          have hr57 := Hr56.out.below hb7
          have z0 := cell_of_row w7 _ 0 _ _ _ hbx7
          have z1 := cell_of_row w7 _ 1 _ _ _ hbx7
          have z2 := cell_of_row w7 _ 2 _ _ _ hbx7
          have zf := fun j => frozen_of_row w7 _ j _ _ hbx7
          have Hbx7 := Lib.hid hbx7; have HB7 := Lib.hid hB7; have Hr47 := Lib.hid hr47; have Hr57 := Lib.hid hr57; clear hb7 hbx7 hB7 hr47 hr57
          obtain ⟨w8, hrun, ho8, hb8⟩ := run_mk et_i64s w7 rfl m (by omega) (by unfold maxLen; omega)
          have hr8 := Rd.own ho8
          rw [nums_rep] at hr8
          have Ho8 := Lib.hid hr8; have Hb8 := Lib.hid hb8; clear ho8 hr8 hb8
          go_wp2_with fail
          clear hrun
          have hsm := same_any A5 (some ⟨w7.heap.size, 0, none⟩) _ _ c5 m w8 (Hr57.out.below Hb8.out) Ho8.out (by rw [List.length_replicate]; omega) (by rw [List.length_replicate]; omega)
          rw [List.length_replicate, decide_eq_true rfl] at hsm
          have Hsm := Lib.hid hsm; clear hsm
          refine Hsm.out.mono ?_
          rintro e w9 ⟨rfl, d9, rfl⟩
          have hb9 : Below w7.heap.size w7 (w8.drewN d9) := below_drewN Hb8.out d9
          generalize w8.drewN d9 = w9 at hb9 ⊢
          have hbx9 := (hb9.block _ (lt_of_block Hbx7.out)).trans Hbx7.out
          have hB9 := HB7.out.trans (hb9.mono HB7.out.size)
          have hrl9 := Hrl2.out A4 c4 w9 hB9 HR.out Hok.out (Hr47.out.below hb9)
          have hr59 := Hr57.out.below hb9
          clear z0 z1 z2 zf
          have z0 := cell_of_row w9 _ 0 _ _ _ hbx9
          have z1 := cell_of_row w9 _ 1 _ _ _ hbx9
          have z2 := cell_of_row w9 _ 2 _ _ _ hbx9
          have zf := fun j => frozen_of_row w9 _ j _ _ hbx9
          have HB9 := Lib.hid hB9; have Hrl9 := Lib.hid hrl9; have Hr59 := Lib.hid hr59; clear hb9 hbx9 hB9 hrl9 hr59
          go_wp2_with fail
          refine Hrl9.out.mono ?_
          rintro e w10 ⟨A10, c10, rfl, hr10, hb10⟩
          have hsm := same_any A5 A10 _ _ c5 c10 w10 (Hr59.out.below hb10) hr10 (by rw [List.length_replicate]; omega) (by rw [List.length_replicate]; omega)
          rw [List.length_replicate, decide_eq_true rfl] at hsm
          have HB10 := Lib.hid (HB9.out.trans (hb10.mono HB9.out.size)); have Hsm2 := Lib.hid hsm; clear hb10 z0 z1 z2 zf hr10 hsm
          go_wp2_with fail
          refine Hsm2.out.mono ?_
          rintro e w11 ⟨rfl, d11, rfl⟩
          go_wp2_with fail
          go_ret
          exact ⟨rfl, below_drewN HB10.out d11⟩
        · exact absurd HR.out hno
      · have hq1 : ((x0 : Int) != (n0 : Int)) = true := by simp; omega
        clear hok
        go_wp2_with fail
        refine (alive09 _).mono ?_
        rintro e w3 ⟨rfl, hb3⟩
        have HB3 := Lib.hid (HB2.out.trans (hb3.mono HB2.out.size)); clear hb3 z0 z1 z2 zf p0'
        go_wp2_with fail
        go_ret
        exact ⟨rfl, HB3.out⟩
    · go_wp2_with fail
      refine (alive09 _).mono ?_
      rintro e w3 ⟨rfl, hb3⟩
      have HB3 := Lib.hid (HB2.out.trans (hb3.mono HB2.out.size)); clear hb3 z0 z1 z2 zf hr
      go_wp2_with fail
      go_ret
      exact ⟨rfl, HB3.out⟩

set_option maxRecDepth 100000 in
theorem NetPerfect_walk {H : Type} {enc : TypeId × Value → H} {base : Nat} {v0 v1 : Value} {d0 d1 : DataW H} {p0 p1 : List MemPlace} (W : World)
    (o0 : Value.okWide Try.prog W .any base 25 v0) (h0 : DataW.Trod enc Try.prog W 0 (fun _ => true) true 25 v0 d0 p0) (z0 : Light Try.prog 25 d0)
    (o1 : Value.okWide Try.prog W .any base 23 v1) (h1 : DataW.Trod enc Try.prog W 0 (fun _ => true) true 23 v1 d1 p1) (z1 : Light Try.prog 23 d1) :
    Calls Try.prog 7 #[v0, v1] W fun e w' => e = .returned (.bool true) ∧ Below W.heap.size W w' := by
  obtain ⟨As, Ap, sz, ps, cs, cp, q, rfl, a1, a2⟩ := open_rnet o0 h0 z0
  obtain ⟨X, x, cx, rfl, a3⟩ := open_i64s o1 h1 z1
  exact perfect_core As Ap X sz ps x cs cp cx q W a1 a2 a3
end Go.Proofs.Ytfiojofcafjfeaa
