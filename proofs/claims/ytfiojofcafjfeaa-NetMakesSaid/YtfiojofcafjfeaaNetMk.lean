/- The walk of the law NetMakes. -/
import Derived.Test.YtfiojofcafjfeaaOpnNet
set_option linter.unusedSimpArgs false
set_option linter.unusedVariables false
namespace Go.Proofs.Ytfiojofcafjfeaa
open Go.RowKit

/-- A row of numbers of the call's own, whatever the numbers. -/
def SomeRow (w : World) (base : Nat) (v : Value) (n : Nat) : Prop := ∃ xs : List Int, w.ownsRow base 2 1 v n (nums .i64 xs)

theorem SomeRow.put {w : World} {base n g c : Nat} (h : SomeRow w base (.slice (some ⟨g, 0, none⟩) n c) n) (k : Nat) (v : Int) : SomeRow (w.setCell ⟨g, k, none⟩ (.int .i64 v)) base (.slice (some ⟨g, 0, none⟩) n c) n := by
  obtain ⟨xs, h⟩ := h
  exact ⟨_, own_put h k v⟩
theorem SomeRow.cell {w : World} {base n g c : Nat} (h : SomeRow w base (.slice (some ⟨g, 0, none⟩) n c) n) {k : Nat} (hk : k < n) : ∃ x : Int, w.cell? ⟨g, k, none⟩ = some (.int .i64 x) ∧ w.frozen? ⟨g, k, none⟩ = false := by
  obtain ⟨xs, h⟩ := h
  have f := h.frozenAt k
  exact ⟨_, own_num h hk, f⟩
theorem SomeRow.form {w : World} {base n c : Nat} {A : Option Addr} (h : SomeRow w base (.slice A n c) n) (hn : 0 < n) : ∃ g, A = some ⟨g, 0, none⟩ := by
  obtain ⟨xs, h⟩ := h
  obtain ⟨g, e, hv, _⟩ := h.form hn
  simp only [Value.slice.injEq] at hv
  exact ⟨g, hv.1⟩
theorem SomeRow.lt {w : World} {base n : Nat} {v : Value} (h : SomeRow w base v n) : ∀ i, v.ownBlock = some i → base ≤ i ∧ i < w.heap.size := by
  obtain ⟨xs, h⟩ := h
  exact h.lt
theorem SomeRow.keep {w w' : World} {base n : Nat} {v : Value} (h : SomeRow w base v n) {S : Nat → Prop} (k : Keep S w w') (hS : ∀ i, v.ownBlock = some i → ¬ S i) : SomeRow w' base v n := by
  obtain ⟨xs, h⟩ := h
  exact ⟨xs, k.own h hS⟩
theorem SomeRow.below {w w' : World} {base n : Nat} {v : Value} (h : SomeRow w base v n) (hb : Below w.heap.size w w') : SomeRow w' base v n := by
  obtain ⟨xs, h⟩ := h
  exact ⟨xs, own_below h hb⟩
theorem NetP.keep {w w' : World} {base b : Nat} {ps : List Int} (h : NetP w base b ps) {S : Nat → Prop} (k : Keep S w w') (hS : ∀ i, S i → i < base) : NetP w' base b ps := by
  obtain ⟨s, Ap, cp, q, l, h1, h2, h3⟩ := h
  exact ⟨s, Ap, cp, q, l, (k.block b (lt_of_block h1) (fun hs => by have := hS b hs; omega)).trans h1, k.own h2 (fun i hi hs => by have := hS i hs; have := (h2.lt i hi).1; omega), h3⟩
theorem NetP.below {w w' : World} {base b : Nat} {ps : List Int} (h : NetP w base b ps) (hb : Below w.heap.size w w') : NetP w' base b ps := by
  obtain ⟨s, Ap, cp, q, l, h1, h2, h3⟩ := h
  exact ⟨s, Ap, cp, q, l, (hb.block b (lt_of_block h1)).trans h1, own_below h2 hb, h3⟩

set_option maxRecDepth 100000 in
set_option maxHeartbeats 2000000 in
theorem makes_core (As Ap : Option Addr) (sz ps : List Int) (cs cp : Nat) (q : Int) (W : World) (hs : NumsIn W As sz cs) (hp : NumsIn W Ap ps cp) :
    Calls Try.prog 4 #[.agg #[.slice As sz.length cs, .slice Ap ps.length cp, .int .i64 q]] W fun e w' => e = .returned (.bool true) ∧ Below W.heap.size W w' := by
  have hfw := fun w' (k : Below W.heap.size W w') => rfew9_any As Ap sz ps.length cs cp q w' (hs.hr.below k) hs.hl hp.hl
  have hrt := fun w' (k : Below W.heap.size W w') => rright_any As Ap sz ps cs cp q w' (hs.hr.below k) hs.hl hp.hl
  have hcl := fun w' (k : Below W.heap.size W w') => rclone_any Ap ps cp w' (hp.hr.below k) hp.hl
  have hln := fun A c w' (k : Below W.heap.size W w') (hA : Rd w' A (nums .i64 ps)) => lnew_any As A sz ps cs c q w' (hs.hr.below k) hA hs.hc hs.hm
  have hpa := fun b s qv l A c w' h0 h2 => params_of b s qv l A c ps w' h0 h2 hp.hl
  have hsm := fun A c w' (k : Below W.heap.size W w') (hA : Rd w' A (nums .i64 ps)) => same_any A Ap ps ps c cp w' hA (hp.hr.below k) hp.hl hp.hl
  obtain ⟨L, hL⟩ : ∃ L, sz.length = L := ⟨_, rfl⟩
  obtain ⟨m, hm⟩ : ∃ m, ps.length = m := ⟨_, rfl⟩
  have hpl := hp.hl
  rw [hL] at hfw hrt hln ⊢
  rw [hm] at hfw hrt hcl hln hpa hsm hpl ⊢
  rw [decide_eq_true rfl] at hsm
  have Hfw := Lib.hid hfw; have Hrt := Lib.hid hrt; have Hcl := Lib.hid hcl; have Hln := Lib.hid hln; have Hpa := Lib.hid hpa; have Hsm := Lib.hid hsm; have Hm := Lib.hid hm
  clear hfw hrt hcl hln hpa hsm hs hp hL hm
  go_enter Try.func4, Try.ntmps4
  go_wp2_with fail
  refine (Hfw.out _ ?_).mono ?_
  · (focus (repeat' (first | (with_reducible exact Below.refl _ _) | (with_reducible assumption) | (with_reducible refine Below.setCell ?_ ?_ _) | (with_reducible refine Below.alloc ?_ ?_ _) | (with_reducible refine below_drewN ?_ _) | (with_reducible refine Below.drew ?_) | (with_reducible exact Nat.le_refl _) | omega | (simp; done) | (simp; omega))))
  rintro e w1 ⟨⟨v, rfl, _⟩, hb1⟩
  have hbx1 := (hb1.block W.heap.size (by simp)).trans (heap_alloc_new W (.cells #[.slice As L cs, .slice Ap m cp, .int .i64 q] 25))
  have hB1 : Below W.heap.size W w1 := ((Below.refl _ W).alloc (Nat.le_refl _) _).trans (hb1.mono (by simp))
  have hz1 := hb1.size
  simp at hz1
  have z0 := cell_of_row w1 _ 0 _ _ _ hbx1
  have z1 := cell_of_row w1 _ 1 _ _ _ hbx1
  have z2 := cell_of_row w1 _ 2 _ _ _ hbx1
  have zf := fun j => frozen_of_row w1 _ j _ _ hbx1
  have Hbx1 := Lib.hid hbx1; have HB1 := Lib.hid hB1; clear hb1 hbx1 hB1
  cases v with
  | false =>
    go_wp2_with fail
    refine (alive09 _).mono ?_
    rintro e w2 ⟨rfl, hb2⟩
    have HB2 := Lib.hid (HB1.out.trans (hb2.mono HB1.out.size)); clear hb2 z0 z1 z2 zf
    go_wp2_with fail
    go_ret
    exact ⟨rfl, HB2.out⟩
  | true =>
    have hlt1 : W.heap.size < w1.heap.size := by omega
    go_wp2_with fail
    refine (Hcl.out _ ?_).mono ?_
    · exact HB1.out.alloc HB1.out.size _
    rintro e w2 ⟨A2, c2, rfl, ho2, hb2⟩
    have hown2 := (hb2.block w1.heap.size (by simp)).trans (heap_alloc_new w1 (.cells #[.slice As L cs, .slice Ap m cp, .int .i64 q] 25))
    have hbx2 := (hb2.block W.heap.size (by simp; omega)).trans ((Below.heap_alloc w1 _ _ hlt1).trans Hbx1.out)
    have hB2 : Below W.heap.size W w2 := (HB1.out.alloc HB1.out.size _).trans (hb2.mono (by simp; omega))
    have hz2 := hb2.size
    simp at hz2 ho2
    clear z0 z1 z2 zf
    have z0 := cell_of_row w2 _ 0 _ _ _ hbx2
    have z1 := cell_of_row w2 _ 1 _ _ _ hbx2
    have z2 := cell_of_row w2 _ 2 _ _ _ hbx2
    have zf := fun j => frozen_of_row w2 _ j _ _ hbx2
    have o0 := cell_of_row w2 _ 0 _ _ _ hown2
    have o1 := cell_of_row w2 _ 1 _ _ _ hown2
    have o2 := cell_of_row w2 _ 2 _ _ _ hown2
    have of := fun j => frozen_of_row w2 _ j _ _ hown2
    have hl2 : w1.heap.size < w2.heap.size := by omega
    have Ho2 := Lib.hid ho2; have Hbx2 := Lib.hid hbx2; have Hown2 := Lib.hid hown2; have HB2 := Lib.hid hB2; clear ho2 hb2 hbx2 hown2 hB2
    go_wp2_with fail
    obtain ⟨W3, hW3⟩ : ∃ W3, W3 = w2.setCell ⟨w1.heap.size, 1, none⟩ (.slice A2 m c2) := ⟨_, rfl⟩
    have hk3 : Keep (fun i => i = w1.heap.size) w2 W3 := by rw [hW3]; exact Keep.setCell (S := fun i => i = w1.heap.size) (Keep.refl _ _) _ (.inr rfl) _
    have hown3 : W3.heap[w1.heap.size]? = some (.cells #[.slice As L cs, .slice A2 m c2, .int .i64 q] 25 (0, 0)) := by rw [hW3]; exact heap_setCell_same _ _ 1 _ _ _ Hown2.out
    have hlo := Ho2.out.lt
    have ho3 := hk3.own Ho2.out (fun i hi e => by have := (hlo i hi).1; omega)
    have hbx3 := (hk3.block _ (lt_of_block Hbx2.out) (by omega)).trans Hbx2.out
    have hB3 : Below W.heap.size W W3 := HB2.out.trans (hk3.toBelow HB2.out.size (fun i hi => by omega))
    have hz3 := hk3.size
    have hs3 : SomeRow W3 (w1.heap.size + 1) (.slice A2 m c2) m := ⟨_, ho3⟩
    rw [← hW3]
    have Hlo := Lib.hid hlo; have Hown3 := Lib.hid hown3; have Hbx3 := Lib.hid hbx3; have HB3 := Lib.hid hB3; have Hs3 := Lib.hid hs3; have Ho3 := Lib.hid ho3
    clear hW3 hk3 hown3 hlo ho3 hbx3 hB3 hs3 o0 o1 o2 of z0 z1 z2 zf
    refine (Hln.out A2 c2 W3 HB3.out (Rd.own Ho3.out)).mono ?_
    rintro e w4 ⟨hb4, h⟩
    have hB4 := HB3.out.trans (hb4.mono HB3.out.size)
    have hbx4 := (hb4.block _ (lt_of_block Hbx3.out)).trans Hbx3.out
    have hown4 := (hb4.block _ (lt_of_block Hown3.out)).trans Hown3.out
    have hs4 := Hs3.out.below hb4
    have hz4 := hb4.size
    have o0 := cell_of_row w4 _ 0 _ _ _ hown4
    have o1 := cell_of_row w4 _ 1 _ _ _ hown4
    have o2 := cell_of_row w4 _ 2 _ _ _ hown4
    have of := fun j => frozen_of_row w4 _ j _ _ hown4
    have Hown4 := Lib.hid hown4; have Hbx4 := Lib.hid hbx4; have HB4 := Lib.hid hB4; have Hs4 := Lib.hid hs4; clear hb4 hbx4 hown4 hB4 hs4
    rcases h with ⟨hr, b, rfl, _, hN⟩ | ⟨hr, rfl⟩
    · have Hr := Lib.hid hr; have HN := Lib.hid hN; clear hr hN
      go_wp2_with fail
      go_loopw [26] (fun i wr => ∃ k : Nat, k ≤ m ∧ i = .int .i64 k ∧ SomeRow wr (w1.heap.size + 1) (.slice A2 m c2) m ∧ Keep (fun i => (Value.slice A2 m c2).ownBlock = some i) w4 wr) (fun i _ => m - (intOf i).toNat)
      case atStart => exact ⟨0, Nat.zero_le _, rfl, Hs4.out, Keep.refl _ _⟩
      case round =>
        obtain ⟨k, hk, rfl, hrow, hK⟩ := hrel
        have how := (hK.block _ (lt_of_block Hown4.out) (fun h => by have := (Hlo.out _ h).1; omega)).trans Hown4.out
        have hlw := lt_of_block how
        have o0 := cell_of_row wr _ 0 _ _ _ how
        have o1 := cell_of_row wr _ 1 _ _ _ how
        have o2 := cell_of_row wr _ 2 _ _ _ how
        have of := fun j => frozen_of_row wr _ j _ _ how
        by_cases hlt : k < m
        · obtain ⟨g, rfl⟩ := hrow.form (by omega)
          obtain ⟨x, p1, f1⟩ := hrow.cell hlt
          have hkl : (k : Int) < m := by omega
          have Hrow := Lib.hid hrow; have HK := Lib.hid hK; clear hrow hK how
          go_wp2_with fail
          go_roundw
          case rel => exact ⟨k + 1, by omega, by go_num, Hrow.out.put k _, Keep.setCell HK.out ⟨g, k, none⟩ (.inr rfl) _⟩
          case measure => simp [intOf]; omega
        · obtain rfl : m = k := by omega
          have hBr : Below W.heap.size W wr := HB4.out.trans (hK.toBelow HB4.out.size (fun i hi => by have := (Hlo.out i hi).1; omega))
          have hbr := (hK.block _ (lt_of_block Hbx4.out) (fun h => by have := (Hlo.out _ h).1; omega)).trans Hbx4.out
          have hNr := HN.out.keep hK (fun i hi => by have := (Hlo.out i hi).2; omega)
          have HBr := Lib.hid hBr; have Hbr := Lib.hid hbr; have HNr := Lib.hid hNr; clear hBr hbr hNr hrow hK how
          have hbr := Hbr.out
          have z0 := cell_of_row wr _ 0 _ _ _ hbr
          have z1 := cell_of_row wr _ 1 _ _ _ hbr
          have z2 := cell_of_row wr _ 2 _ _ _ hbr
          have zf := fun j => frozen_of_row wr _ j _ _ hbr
          clear hbr
          obtain ⟨wq, rfl⟩ : ∃ wq : World, wq = wr := ⟨_, rfl⟩
          go_wp2_with fail
          refine (Hrt.out _ HBr.out).mono ?_
          rintro e w5 ⟨h, hb5⟩
          have hB5 := HBr.out.trans (hb5.mono HBr.out.size)
          have hbx5 := (hb5.block _ (lt_of_block Hbr.out)).trans Hbr.out
          have hN5 := HNr.out.below hb5
          rcases h with ⟨_, rfl⟩ | ⟨hr', rfl⟩
          case inr => exact absurd Hr.out hr'
          obtain ⟨s5, A5, c5, q5, l5, n1, n2, n3⟩ := hN5
          have hpa := Hpa.out b s5 q5 l5 A5 c5 w5 (by have := Hm.out; rw [this] at n1; exact n1) (by have := Hm.out; rw [this] at n2; exact Rd.own n2)
          have HB5 := Lib.hid hB5; have Hbx5 := Lib.hid hbx5; have Hpa5 := Lib.hid hpa; have HN1 := Lib.hid n1; have HN2 := Lib.hid n2; clear hb5 hB5 hbx5 hpa n1 n2 n3 z0 z1 z2 zf o0 o1 o2 of
          go_wp2_with fail
          refine Hpa5.out.mono ?_
          rintro e w6 ⟨A6, c6, rfl, ho6, hb6⟩
          have hB6 := HB5.out.trans (hb6.mono HB5.out.size)
          have hbx6 := (hb6.block _ (lt_of_block Hbx5.out)).trans Hbx5.out
          have n1 := (hb6.block _ (lt_of_block HN1.out)).trans HN1.out
          have n2 := own_below HN2.out hb6
          have hlo6 := ho6.lt
          have hl2 := HN2.out.lt
          have hlb := lt_of_block HN1.out
          have hlb6 := lt_of_block n1
          have hl0 := lt_of_block Hbx5.out
          have hs6 : SomeRow w6 w5.heap.size (.slice A6 m c6) m := ⟨_, ho6⟩
          have HB6 := Lib.hid hB6; have Hbx6 := Lib.hid hbx6; have HM1 := Lib.hid n1; have HM2 := Lib.hid n2; have Hlo6 := Lib.hid hlo6; have Hl2 := Lib.hid hl2; have Hs6 := Lib.hid hs6; clear hb6 hB6 hbx6 n1 n2 hlo6 hl2 hs6 ho6
          go_wp2_with fail
          go_loopw [59] (fun i wr => ∃ k : Nat, k ≤ m ∧ i = .int .i64 k ∧ SomeRow wr w5.heap.size (.slice A6 m c6) m ∧ Keep (fun i => (Value.slice A6 m c6).ownBlock = some i) w6 wr) (fun i _ => m - (intOf i).toNat)
          case atStart => exact ⟨0, Nat.zero_le _, rfl, Hs6.out, Keep.refl _ _⟩
          case round =>
            obtain ⟨k, hk, rfl, hrow, hK⟩ := hrel
            by_cases hlt : k < m
            · obtain ⟨g, rfl⟩ := hrow.form (by omega)
              obtain ⟨x, p1, f1⟩ := hrow.cell hlt
              have hkl : (k : Int) < m := by omega
              have Hrow := Lib.hid hrow; have HK := Lib.hid hK; clear hrow hK
              go_wp2_with fail
              go_roundw
              case rel => exact ⟨k + 1, by omega, by go_num, Hrow.out.put k _, Keep.setCell HK.out ⟨g, k, none⟩ (.inr rfl) _⟩
              case measure => simp [intOf]; omega
            · obtain rfl : m = k := by omega
              have hBx : Below W.heap.size W wr := HB6.out.trans (hK.toBelow HB6.out.size (fun i hi => by have := (Hlo6.out i hi).1; omega))
              have hbx := (hK.block _ (lt_of_block Hbx6.out) (fun h => by have := (Hlo6.out _ h).1; omega)).trans Hbx6.out
              have n1 := (hK.block b hlb6 (fun h => by have := (Hlo6.out _ h).1; omega)).trans HM1.out
              have n2 := hK.own HM2.out (fun i hi h => by have := (Hlo6.out _ h).1; have := (Hl2.out i hi).2; omega)
              have HBx := Lib.hid hBx; have Hbx := Lib.hid hbx; have HP1 := Lib.hid n1; have HP2 := Lib.hid n2; clear hBx hbx n1 n2 hrow hK
              have hcall : ∀ w7, Below wr.heap.size wr w7 → Calls Try.prog 17 #[.pointer (some ⟨b, 0, none⟩)] w7 fun e w' => ∃ A c, e = .returned (.slice A m c) ∧ w'.ownsRow w7.heap.size 2 1 (.slice A m c) m (nums .i64 ps) ∧ Below w7.heap.size w7 w' := fun w7 hb => by
                have h1 := (hb.block _ (lt_of_block HP1.out)).trans HP1.out
                have h2 := own_below HP2.out hb
                rw [Hm.out] at h1 h2
                exact Hpa.out b s5 q5 l5 A5 c5 w7 h1 (Rd.own h2)
              have hfld : ∀ w7, Below wr.heap.size wr w7 → w7.cell? ⟨W.heap.size, 1, none⟩ = some (.slice Ap m cp) := fun w7 hb => cell_of_row w7 _ 1 _ _ _ ((hb.block _ (lt_of_block Hbx.out)).trans Hbx.out)
              have Hcall := Lib.hid hcall; have Hfld := Lib.hid hfld; clear hcall hfld
              go_wp2_with fail
              go_region_with (first
                | (go_at_call 11; refine (alive09 _).mono ?_; rintro e w7 ⟨rfl, hb7⟩; have hb7' : Below wr.heap.size wr w7 := (Below.refl wr.heap.size wr).drew.trans hb7; have z1 := Hfld.out w7 hb7'; have Hb7 := Lib.hid hb7'; clear hb7 hb7')
                | (go_at_call 17; refine (Hcall.out _ Hb7.out).mono ?_; rintro e w8 ⟨A8, c8, rfl, ho8, hb8⟩; have hb8' := Hb7.out.trans (hb8.mono Hb7.out.size); have z18 := Hfld.out w8 hb8'; have Hb8 := Lib.hid hb8'; have Ho8 := Lib.hid (Rd.own ho8); clear hb8 hb8' ho8)
                | (go_at_call 14; refine (Hsm.out _ _ _ (HBx.out.trans (Hb8.out.mono HBx.out.size)) Ho8.out).mono ?_; rintro e w9 ⟨rfl, d9, rfl⟩))
              all_goals
                go_wp2_with fail
                go_ret
                exact ⟨rfl, below_drewN (HBx.out.trans (Hb8.out.mono HBx.out.size)) d9⟩
    · have Hr := Lib.hid hr; clear hr
      go_wp2_with fail
      go_loopw [26] (fun i wr => ∃ k : Nat, k ≤ m ∧ i = .int .i64 k ∧ SomeRow wr (w1.heap.size + 1) (.slice A2 m c2) m ∧ Keep (fun i => (Value.slice A2 m c2).ownBlock = some i) w4 wr) (fun i _ => m - (intOf i).toNat)
      case atStart => exact ⟨0, Nat.zero_le _, rfl, Hs4.out, Keep.refl _ _⟩
      case round =>
        obtain ⟨k, hk, rfl, hrow, hK⟩ := hrel
        have how := (hK.block _ (lt_of_block Hown4.out) (fun h => by have := (Hlo.out _ h).1; omega)).trans Hown4.out
        have hlw := lt_of_block how
        have o0 := cell_of_row wr _ 0 _ _ _ how
        have o1 := cell_of_row wr _ 1 _ _ _ how
        have o2 := cell_of_row wr _ 2 _ _ _ how
        have of := fun j => frozen_of_row wr _ j _ _ how
        by_cases hlt : k < m
        · obtain ⟨g, rfl⟩ := hrow.form (by omega)
          obtain ⟨x, p1, f1⟩ := hrow.cell hlt
          have hkl : (k : Int) < m := by omega
          have Hrow := Lib.hid hrow; have HK := Lib.hid hK; clear hrow hK how
          go_wp2_with fail
          go_roundw
          case rel => exact ⟨k + 1, by omega, by go_num, Hrow.out.put k _, Keep.setCell HK.out ⟨g, k, none⟩ (.inr rfl) _⟩
          case measure => simp [intOf]; omega
        · obtain rfl : m = k := by omega
          have hBr : Below W.heap.size W wr := HB4.out.trans (hK.toBelow HB4.out.size (fun i hi => by have := (Hlo.out i hi).1; omega))
          have hbr := (hK.block _ (lt_of_block Hbx4.out) (fun h => by have := (Hlo.out _ h).1; omega)).trans Hbx4.out
          have HBr := Lib.hid hBr; have Hbr := Lib.hid hbr; clear hBr hbr hrow hK how
          have hbr := Hbr.out
          have z0 := cell_of_row wr _ 0 _ _ _ hbr
          have z1 := cell_of_row wr _ 1 _ _ _ hbr
          have z2 := cell_of_row wr _ 2 _ _ _ hbr
          have zf := fun j => frozen_of_row wr _ j _ _ hbr
          clear hbr
          go_wp2_with fail
          refine (Hrt.out _ HBr.out).mono ?_
          rintro e w5 ⟨h, hb5⟩
          have hB5 := HBr.out.trans (hb5.mono HBr.out.size)
          rcases h with ⟨hr', rfl⟩ | ⟨_, rfl⟩
          · exact absurd hr' Hr.out
          have HB5 := Lib.hid hB5; clear hb5 hB5 z0 z1 z2 zf o0 o1 o2 of
          go_wp2_with fail
          refine (params_nil _).mono ?_
          rintro e w6 ⟨rfl, rfl⟩
          go_wp2_with fail
          refine (alive09 _).mono ?_
          rintro e w7 ⟨rfl, hb7⟩
          have HB7 := Lib.hid (HB5.out.trans (hb7.mono HB5.out.size)); clear hb7
          go_wp2_with fail
          go_ret
          exact ⟨rfl, HB7.out⟩

set_option maxRecDepth 100000 in
theorem NetMakes_walk {H : Type} {enc : TypeId × Value → H} {base : Nat} {v0 : Value} {d0 : DataW H} {p0 : List MemPlace} (W : World)
    (o0 : Value.okWide Try.prog W .any base 25 v0) (h0 : DataW.Trod enc Try.prog W 0 (fun _ => true) true 25 v0 d0 p0) (z0 : Light Try.prog 25 d0) :
    Calls Try.prog 4 #[v0] W fun e w' => e = .returned (.bool true) ∧ Below W.heap.size W w' := by
  obtain ⟨As, Ap, sz, ps, cs, cp, q, rfl, a1, a2⟩ := open_rnet o0 h0 z0
  exact makes_core As Ap sz ps cs cp q W a1 a2
end Go.Proofs.Ytfiojofcafjfeaa
