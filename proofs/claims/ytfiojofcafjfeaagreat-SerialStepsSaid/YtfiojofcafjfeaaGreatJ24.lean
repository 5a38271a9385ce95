/- The walk of sakiaref09.Gradient. The reference's rule and net; a state turned back. No condition. -/
import Derived.Test.YtfiojofcafjfeaaGreatJ22
import Derived.Test.YtfiojofcafjfeaaGreatJ23
import Derived.Test.YtfiojofcafjfeaaGreatJ21
set_option linter.unusedSimpArgs false
set_option linter.unusedVariables false
namespace Go.Proofs.YtfiojofcafjfeaaGreat
open Go.RowKit

/-- The errors of the layers ahead of k that are behind the first. -/
def RGradI (sz ps : List Int) (q : Int) (x y : List Int) (B : Nat) (k : Nat) (v : Value) (BX : Obj) (w0 w2 w : World) : Prop :=
  ∃ A c vals, v = .slice A k c ∧ w.ownsRow w2.heap.size 26 1 (.slice A k c) k vals ∧
    (∀ j, 1 ≤ j → j < k → ∃ Aj cj, vals[j]? = some (.slice Aj (szN sz j) cj) ∧ w.ownsRow w2.heap.size 2 1 (.slice Aj (szN sz j) cj) (szN sz j) (nums .i64 (errD sz ps q x y (sz.length - 1 - j)))) ∧ Below w2.heap.size w2 w

/-- A call that leaves its world alone, in a quiet region behind another. -/
theorem quiet_more {P : Program} {f : FuncId} {args : Array Value} {W : World} {a n : Nat} {v : Value} (h : ∀ w', Calls P f args w' fun e w'' => e = .returned v ∧ w' = w'') : Calls P f args (W.drewN (a + n)) fun e w'' => e = .returned v ∧ ∃ m, w'' = W.drewN (a + m) :=
  (h _).mono fun _ _ h => ⟨h.1, n, h.2.symm⟩
set_option maxRecDepth 100000 in
set_option maxHeartbeats 2000000 in
theorem rgrad_any (As Ap X Y : Option Addr) (sz ps x y : List Int) (cs cp cx cy : Nat) (q : Int) (w : World) (h : RNet w As Ap sz ps cs) (hX : Rd w X (nums .i64 x)) (hx : x.length = szN sz 0) (wx : W64 x) (hcx : x.length ≤ cx) (hY : Rd w Y (nums .i64 y)) (hy : y.length = szN sz (sz.length - 1)) :
    Calls Tryz.prog 50 #[.agg #[.slice As sz.length cs, .slice Ap ps.length cp, .int .i64 q], .slice X x.length cx, .slice Y y.length cy] w fun e w' => ∃ A' c', e = .returned (.slice A' (cntN sz (sz.length - 1)) c') ∧ Rd w' A' (nums .i64 (gradL sz ps q x y)) ∧ Below w.heap.size w w' := by
  have hl16 := h.hg.1.1
  have hgl := gradL_eq (sz := sz) (ps := ps) (q := q) (x := x) (y := y) hx (by omega)
  have hpl := plL_len sz (sz.length - 1)
  have hla := fun w' => rlast_any As Ap sz.length ps.length cs cp q w' (by omega)
  have htr := fun w' (hb : Below w.heap.size w w') => rtrace_any As Ap X sz ps x cs cp cx q w' (h.below hb) (hX.below hb) hx wx hcx
  have hpa := fun w' (hb : Below w.heap.size w w') => rplaces_any As sz cs w' (h.hA.below hb) h.hg
  have her := fun j V cv vals w' (hb : Below w.heap.size w w') (hj : j + 1 ≤ sz.length) (hV : Rd w' V vals) (hva : VecsAt w' vals sz.length (valL sz ps q x)) => rerr_any As Ap Y V sz ps x y cs cp cy cv q vals hx wx hy j w' hj (h.below hb) (hY.below hb) hV hva
  have hcb := h.hg.2
  have hG := h.hg
  rw [hgl]
  obtain ⟨L, hL⟩ : ∃ L, sz.length = L := ⟨_, rfl⟩
  obtain ⟨m, hm⟩ : ∃ m, ps.length = m := ⟨_, rfl⟩
  obtain ⟨Y0, hY0⟩ : ∃ Y0, y.length = Y0 := ⟨_, rfl⟩
  obtain ⟨X0, hX0⟩ : ∃ X0, x.length = X0 := ⟨_, rfl⟩
  rw [hL] at hla htr her hpa hl16 hpl hcb ⊢
  rw [hm] at hla htr her ⊢
  rw [hY0] at her ⊢
  rw [hX0] at htr ⊢
  obtain ⟨N, hN⟩ : ∃ N, cntN sz (L - 1) = N := ⟨_, rfl⟩
  rw [hN] at hpa hpl hcb ⊢
  have Hla := Lib.hid hla; have Htr := Lib.hid htr; have Her := Lib.hid her; have Hpa := Lib.hid hpa; have Hpl := Lib.hid hpl; have HG := Lib.hid hG; have HL := Lib.hid hL; have Hx := Lib.hid hx; have WX := Lib.hid wx
  clear hla htr her hpa hpl hG hX hx wx hcx hY hy hgl hL hm hY0 hX0 hN h
  go_enter Tryz.func50, Tryz.ntmps50
  go_wp2_with fail
  refine (Htr.out _ ?_).mono ?_
  · (focus (repeat' (first | (with_reducible exact Below.refl _ _) | (with_reducible assumption) | (with_reducible refine Below.setCell ?_ ?_ _) | (with_reducible refine Below.alloc ?_ ?_ _) | (with_reducible refine below_drewN ?_ _) | (with_reducible refine Below.drew ?_) | (with_reducible exact Nat.le_refl _) | omega | (simp; done) | (simp; omega))))
  rintro e w1 ⟨V, cv, vals, rfl, hV, hva, hcv, hb1⟩
  have hbx1 := (hb1.block w.heap.size (by simp)).trans (heap_alloc_new w (.cells #[.slice As L cs, .slice Ap m cp, .int .i64 q] 112))
  have hB1 : Below w.heap.size w w1 := ((Below.refl _ w).alloc (Nat.le_refl _) _).trans (hb1.mono (by simp))
  have z0 := cell_of_row w1 _ 0 _ _ _ hbx1
  have z1 := cell_of_row w1 _ 1 _ _ _ hbx1
  have z2 := cell_of_row w1 _ 2 _ _ _ hbx1
  have zf := fun j => frozen_of_row w1 _ j _ _ hbx1
  have HB1 := Lib.hid hB1; have Hbx1 := Lib.hid hbx1; have HV1 := Lib.hid hV; have Hva1 := Lib.hid hva; clear hb1 hbx1 hB1 hV hva hcv
  go_wp2_with fail
  refine (Hpa.out _ HB1.out).mono ?_
  rintro e w2 ⟨Pa, pc, rfl, hop, hb2⟩
  have hbx2 := (hb2.block _ (lt_of_block Hbx1.out)).trans Hbx1.out
  have hB2 := HB1.out.trans (hb2.mono HB1.out.size)
  have hV2 := HV1.out.below hb2
  have hva2 := Hva1.out.below hb2
  have hrp := Rd.own hop
  clear z0 z1 z2 zf
  have z0 := cell_of_row w2 _ 0 _ _ _ hbx2
  have z1 := cell_of_row w2 _ 1 _ _ _ hbx2
  have z2 := cell_of_row w2 _ 2 _ _ _ hbx2
  have zf := fun j => frozen_of_row w2 _ j _ _ hbx2
  have hbxl : w.heap.size < w2.heap.size := lt_of_block hbx2
  have HB2 := Lib.hid hB2; have Hbx2 := Lib.hid hbx2; have HV2 := Lib.hid hV2; have Hva2 := Lib.hid hva2; have Hrp := Lib.hid hrp; clear hb2 hbx2 hB2 hV2 hva2 hop hrp
  go_wp2_with fail
  go_loopw [9, 10] (fun v i wr => ∃ k : Nat, k ≤ L ∧ i = .int .i64 k ∧ RGradI sz ps q x y w.heap.size k v (.cells #[] 0 (0, 0)) w w2 wr) (fun _ i _ => L - (intOf i).toNat)
  case atStart => exact ⟨0, Nat.zero_le _, rfl, none, 0, [], rfl, World.ownsRow_nil _ _ _ _, fun j h1 h2 => by omega, Below.refl _ _⟩
  case round =>
    obtain ⟨wq, rfl⟩ : ∃ wq : World, wq = wr := ⟨_, rfl⟩
    obtain ⟨k, hk, rfl, Aa, ca, av, rfl, hoa, hav, hWq⟩ := hrel
    have x0 := (hWq.cell (p := ⟨w.heap.size, 0, none⟩) hbxl).trans z0
    have x1 := (hWq.cell (p := ⟨w.heap.size, 1, none⟩) hbxl).trans z1
    have x2 := (hWq.cell (p := ⟨w.heap.size, 2, none⟩) hbxl).trans z2
    have Hoa := Lib.hid hoa; have Hav := Lib.hid hav; have HWq := Lib.hid hWq; clear hoa hav hWq
    by_cases hlt : k < L
    · have hle : (k : Int) ≤ ((L - 1 : Nat) : Int) := by omega
      go_wp2_with fail
      refine (Hla.out _).mono ?_
      rintro e w3 ⟨rfl, hb3⟩
      have hB23 := HWq.out.trans (hb3.mono HWq.out.size)
      have hoa3 := own_below Hoa.out hb3
      have hz3 := hB23.size
      clear x0 x1 x2
      have HB23 := Lib.hid hB23; have Hoa3 := Lib.hid hoa3; have Hb3 := Lib.hid hb3; clear hb3 hB23 hoa3
      go_wp2_with (at_builtin; refine wpList_push et_vvs w3 rfl (.tmp 27) (.tmp 28) rfl w2.heap.size (.slice Aa k ca) k av rfl Hoa3.out [.slice none 0 0] rfl rfl (by simp [Value.oneCell']) (by omega) (by unfold maxLen; omega) hz3 ?_)
      intro g4 c4 w4 ho4 hb4 hg4
      have hB4 := HB23.out.trans hb4
      have havl := Hoa.out.1
      have hkeep : ∀ {mm : Nat} {u : Value} {ys : List Value} {b0 : Nat}, w3.ownsRow b0 2 1 u mm ys → w4.ownsRow b0 2 1 u mm ys := fun h => h.kept hg4 (by
        rename_i u _ _
        cases hu : u.ownBlock with
        | none => exact .inl rfl
        | some i => exact .inr fun e9 => own_types Hoa3.out h (by decide) i e9.symm hu)
      have hav4 : ∀ j, 1 ≤ j → j < k → ∃ Aj cj, (av ++ [Value.slice none 0 0])[j]? = some (.slice Aj (szN sz j) cj) ∧ w4.ownsRow w2.heap.size 2 1 (.slice Aj (szN sz j) cj) (szN sz j) (nums .i64 (errD sz ps q x y (sz.length - 1 - j))) := fun j h1 h2 => by
        obtain ⟨Aj, cj, e1, e2⟩ := Hav.out j h1 h2
        exact ⟨Aj, cj, by rw [List.getElem?_append_left (by omega)]; exact e1, hkeep (own_below e2 Hb3.out)⟩
      have Ho4 := Lib.hid ho4; have HB4 := Lib.hid hB4; have Hav4 := Lib.hid hav4; clear ho4 hb4 hg4 hB4 hav4
      have y0 := (HB4.out.cell (p := ⟨w.heap.size, 0, none⟩) hbxl).trans z0
      have y1 := (HB4.out.cell (p := ⟨w.heap.size, 1, none⟩) hbxl).trans z1
      have y2 := (HB4.out.cell (p := ⟨w.heap.size, 2, none⟩) hbxl).trans z2
      by_cases hk0 : k = 0
      · have hk0i : ¬ (0 : Int) < (k : Int) := by omega
        go_wp2_with fail
        go_roundw
        case rel => exact ⟨k + 1, by omega, by go_num, some ⟨g4, 0, none⟩, c4, _, rfl, Ho4.out, fun j h1 h2 => by omega, HB4.out⟩
        case measure => simp [intOf]; omega
      · have hk0i : (0 : Int) < (k : Int) := by omega
        have hkp : 0 < k := by omega
        have her4 := Her.out (L - 1 - k) V cv vals w4 (HB2.out.trans (HB4.out.mono HB2.out.size)) (by omega) (HV2.out.below HB4.out) (Hva2.out.below HB4.out)
        rw [show L - 1 - (L - 1 - k) = k by omega] at her4
        have Her4 := Lib.hid her4; clear her4
        have hwk : k < k + 1 := Nat.lt_succ_self k
        have hwk2 : (k : Int) < (k : Int) + 1 := by omega
        go_wp2_with fail
        refine Her4.out.mono ?_
        rintro e w5 ⟨A5, c5, rfl, ho5, hb5⟩
        have hB5 := HB4.out.trans (hb5.mono HB4.out.size)
        have hoa5 := own_below Ho4.out hb5
        have hz4 := HB4.out.size
        have q0 := hoa5.cellAt k (by omega)
        have qk : (av ++ [Value.slice none 0 0])[k]? = some (.slice none 0 0) := by
          have := Ho4.out.1
          rw [List.getElem?_append_right (by simp at this; omega)]
          simp at this
          simp [show av.length = k by omega]
        rw [qk] at q0
        have qf := hoa5.frozenAt k
        have hst := (hoa5.stored k (.slice A5 (szN sz k) c5)).1
        have Hst := Lib.hid hst; have HB5 := Lib.hid hB5; have Ho5 := Lib.hid ho5; have Hb5 := Lib.hid hb5; have Hoa5 := Lib.hid hoa5; have Hqk := Lib.hid qk
        clear hst hB5 ho5 hb5 hoa5 qk y0 y1 y2
        go_wp2_with fail
        have hsk : Keep (fun i => i = g4) w5 (w5.setCell ⟨g4, k, none⟩ (.slice A5 (szN sz k) c5)) := Keep.setCell (S := fun i => i = g4) (Keep.refl _ _) ⟨g4, k, none⟩ (.inr rfl) _
        have hkeep2 : ∀ {mm : Nat} {u : Value} {ys : List Value} {b0 : Nat}, w5.ownsRow b0 2 1 u mm ys → (w5.setCell ⟨g4, k, none⟩ (.slice A5 (szN sz k) c5)).ownsRow b0 2 1 u mm ys := fun h => hsk.own h (fun i hi e9 => by
          subst e9
          exact own_types Hoa5.out h (by decide) i rfl hi)
        go_roundw
        case rel =>
          refine ⟨k + 1, by omega, by go_num, some ⟨g4, 0, none⟩, c4, _, rfl, Hst.out, fun j h1 h2 => ?_, HB5.out.trans (hsk.toBelow HB5.out.size (fun i hi => by subst hi; exact (Ho4.out.lt i rfl).1))⟩
          have hl9 : (av ++ [Value.slice none 0 0]).length = k + 1 := by have := Ho4.out.1; simpa using this
          rcases Nat.lt_or_ge j k with hjk | hjk
          · obtain ⟨Aj, cj, e1, e2⟩ := Hav4.out j h1 hjk
            refine ⟨Aj, cj, ?_, hkeep2 (own_below e2 Hb5.out)⟩
            rw [List.getElem?_set_ne (by omega)]; exact e1
          · obtain rfl : j = k := by omega
            refine ⟨A5, c5, ?_, ?_⟩
            · rw [List.getElem?_set_self (by omega)]
            · have := hkeep2 (own_base Ho5.out (base' := w2.heap.size) hz4)
              rw [HL.out]; exact this
        case measure => simp [intOf]; omega
    · obtain rfl : k = L := by omega
      have hle : ¬ ((k : Int) ≤ ((k - 1 : Nat) : Int)) := by omega
      have hLp : 1 ≤ k := by omega
      go_wp2_with fail
      refine (Hla.out _).mono ?_
      rintro e w3 ⟨rfl, hb3⟩
      obtain ⟨ga, ca', hva', hga, _⟩ := Hoa.out.form (by omega)
      simp only [Value.slice.injEq] at hva'
      obtain ⟨rfl, hvx, rfl⟩ := hva'
      clear hvx
      have hB23 := HWq.out.trans (hb3.mono HWq.out.size)
      have hoa3 := own_below Hoa.out hb3
      have hav3 : ∀ j, 1 ≤ j → j < k → ∃ Aj cj, av[j]? = some (.slice Aj (szN sz j) cj) ∧ w3.ownsRow w2.heap.size 2 1 (.slice Aj (szN sz j) cj) (szN sz j) (nums .i64 (errD sz ps q x y (sz.length - 1 - j))) := fun j h1 h2 => by
        obtain ⟨Aj, cj, e1, e2⟩ := Hav.out j h1 h2
        exact ⟨Aj, cj, e1, own_below e2 hb3⟩
      have HB23 := Lib.hid hB23; have Hoa3 := Lib.hid hoa3; have Hav3 := Lib.hid hav3; clear hb3 hB23 hoa3 hav3 x0 x1 x2
      go_wp2_with fail
      have hdec : decide (k ≤ k - 1) = false := decide_eq_false (by omega)
      rw [hdec]
      clear hdec
      go_loopw [11, 12] (fun v i wr => ∃ t : Nat, t ≤ N ∧ i = .int .i64 t ∧ wr.ownsRow w3.heap.size 2 1 v t (nums .i64 (((plL sz (k - 1)).map (gAt sz ps q x y)).take t)) ∧ Below w3.heap.size w3 wr) (fun _ i _ => N - (intOf i).toNat)
      case atStart => exact ⟨0, Nat.zero_le _, rfl, World.ownsRow_nil _ _ _ _, Below.refl _ _⟩
      case round =>
        obtain ⟨wo, rfl⟩ : ∃ wo : World, wo = wr := ⟨_, rfl⟩
        obtain ⟨t, ht, rfl, hown, hbo⟩ := hrel
        obtain ⟨Al, cl, rfl, _⟩ := own_form hown
        have Hown := Lib.hid hown; have Hbo := Lib.hid hbo; clear hown hbo
        by_cases hlt : t < N
        · obtain ⟨pp, hpp⟩ : ∃ pp, (plL sz (k - 1))[t]? = some pp := ⟨_, List.getElem?_eq_getElem (by rw [Hpl.out]; exact hlt)⟩
          have hmem := plL_mem (List.mem_of_getElem? hpp)
          have hga2 : nth ((plL sz (k - 1)).map (gAt sz ps q x y)) t = gAt sz ps q x y pp := by
            unfold nth
            rw [List.getD_eq_getElem?_getD, List.getElem?_map, hpp]
            rfl
          have htk := take_succ_nth ((plL sz (k - 1)).map (gAt sz ps q x y)) t (by rw [List.length_map, Hpl.out]; exact hlt)
          rw [hga2] at htk
          obtain ⟨f0, f1, f2⟩ := plV_at _ _ _ hpp
          obtain ⟨bp, op, hPa, c0⟩ := Hrp.out _ _ f0
          obtain ⟨_, _, e', c1⟩ := Hrp.out _ _ f1
          rw [hPa] at e'; injection e' with e'; injection e' with i1 i2 _; subst i1; subst i2
          obtain ⟨_, _, e', c2⟩ := Hrp.out _ _ f2
          rw [hPa] at e'; injection e' with e'; injection e' with i1 i2 _; subst i1; subst i2
          subst hPa
          have hB2o := HB23.out.trans (Hbo.out.mono HB23.out.size)
          have c0r := cell_below hB2o c0
          have c1r := cell_below hB2o c1
          have c2r := cell_below hB2o c2
          rw [← Nat.add_assoc] at c1r c2r
          obtain ⟨K, R, C⟩ := pp
          dsimp only at hmem c0r c1r c2r
          obtain ⟨m1, m2, m3⟩ := hmem
          obtain ⟨A8, c8, g1, g2⟩ := Hav3.out (K + 1) (by omega) (by omega)
          obtain ⟨_, _, e8, p8⟩ := (Rd.own Hoa3.out) _ _ g1
          injection e8 with e8; injection e8 with i1 i2 _; subst i1; subst i2
          rw [Nat.zero_add] at p8
          have hel := errD_len (sz := sz) (ps := ps) (q := q) (x := x) (y := y) Hx.out (sz.length - 2 - K)
          have hL9 := HL.out
          rw [show sz.length - 1 - (sz.length - 2 - K) = K + 1 by omega] at hel
          rw [show sz.length - 1 - (K + 1) = sz.length - 2 - K by omega] at g2
          have wel := errD_W64 sz ps q x y (sz.length - 2 - K)
          obtain ⟨b9, o9, rfl, p9⟩ := (Rd.own g2).num (show R < (errD sz ps q x y (sz.length - 2 - K)).length by rw [hel]; exact m2)
          have p8o := cell_below Hbo.out p8
          have p9o := cell_below Hbo.out p9
          obtain ⟨A7, c7, h1, h2, h3⟩ := Hva2.out.2 K (by omega)
          have hvl := valL_len (sz := sz) (ps := ps) (q := q) Hx.out K
          rw [hvl] at h1
          obtain ⟨bv, ov, hVe, p7⟩ := HV2.out _ _ h1
          subst hVe
          have p7o := cell_below hB2o p7
          have h3o := h3.below hB2o
          have wvl := valL_W64 (sz := sz) (ps := ps) (q := q) WX.out K
          have hs1 := HG.out.1.at (k := K + 1) (by omega)
          have hs0 := HG.out.1.at (k := K) (by omega)
          have y2 := (hB2o.cell (p := ⟨w.heap.size, 2, none⟩) hbxl).trans z2
          obtain ⟨ev, hev⟩ : ∃ ev, errD sz ps q x y (sz.length - 2 - K) = ev := ⟨_, rfl⟩
          obtain ⟨vv, hvv⟩ : ∃ vv, valL sz ps q x K = vv := ⟨_, rfl⟩
          obtain ⟨n1, hn1⟩ : ∃ n1, szN sz (K + 1) = n1 := ⟨_, rfl⟩
          obtain ⟨n0, hn0⟩ : ∃ n0, szN sz K = n0 := ⟨_, rfl⟩
          have hgv : gAt sz ps q x y (K, R, C) = if 0 ≤ C then mulQ (nth ev R) (nth vv C.toNat) q else nth ev R := by unfold gAt; rw [hev, hvv]
          rw [hev] at p9o wel
          rw [hvv] at h3o wvl hvl
          rw [hn1] at p8o m2 hs1
          rw [hn0] at p7o m3 hs0 hvl
          have Hgv := Lib.hid hgv; have Htk := Lib.hid htk; have H3o := Lib.hid h3o; have WEL := Lib.hid wel; have WVL := Lib.hid wvl; have Hvl := Lib.hid hvl; have HB2o := Lib.hid hB2o
          clear hgv htk h3o wel wvl hvl hB2o hga2 hpp f0 f1 f2 c0 c1 c2 g1 g2 p8 p9 h1 h2 h3 p7 hel hev hvv hn1 hn0 hL9
          have hti : (t : Int) < N := by omega
          go_wp2_with fail
          have e1 : IntKind.i64.wrap ((K : Int) + 1) = (K : Int) + 1 := IntWalk.i64_in _ (by omega)
          have e2 : (K : Int) + 1 < k := by omega
          have e3 : K + 1 < k := by omega
          have e4 : (R : Int) < n1 := by omega
          have e5 : (0 : Int) ≤ (K : Int) + 1 := by omega
          have e6 : ((K : Int) + 1).toNat = K + 1 := by omega
          have e7 : ¬ ((K : Int) + 1 < 0) := by omega
          have e8 : ¬ ((k : Int) ≤ (K : Int) + 1) := by omega
          have l8 : ga < wo.heap.size := lt_of_cell p8o
          have l9 : b9 < wo.heap.size := lt_of_cell p9o
          have l7 : bv < wo.heap.size := lt_of_cell p7o
          have l2 : w.heap.size < wo.heap.size := lt_of_cell y2
          go_quiet (fail)
          have pb := cell_alloc (W := wo) (p := ⟨b9, o9 + R, none⟩) p9o (.cells #[.int .i64 (K : Int), .int .i64 (R : Int), .int .i64 C] 161)
          by_cases hC : 0 ≤ C
          · obtain ⟨C1, rfl⟩ : ∃ C1 : Nat, C = (C1 : Int) := ⟨C.toNat, by omega⟩
            have hC2 : C1 < n0 := by omega
            have hC1 : (C1 : Int) < n0 := by omega
            have hC3 : ¬ ((C1 : Int) < 0) := by omega
            obtain ⟨b7, o7, rfl, p6⟩ := H3o.out.num (show C1 < vv.length by rw [Hvl.out]; exact hC2)
            have l6 : b7 < wo.heap.size := lt_of_cell p6
            have f3 : (K : Int) < k := by omega
            have f4 : K < k := by omega
            have hmu := fun w' => refMul (nth ev R) (nth vv C1) q w' (WEL.out.nth _) (WVL.out.nth _)
            have Hmu := Lib.hid hmu; clear hmu
            obtain ⟨na, rfl⟩ : ∃ na : Nat, na = nq := ⟨_, rfl⟩
            go_wp2_with fail
            go_quiet ((go_at_call 68; exact quiet_more Hmu.out))
            have hzw : w3.heap.size ≤ wo.heap.size := Hbo.out.size
            have hsz9 := Lib.hid (show ((wo.alloc (.cells #[.int .i64 (K : Int), .int .i64 (R : Int), .int .i64 (C1 : Int)] 161)).drewN (na + nq)).heap.size = wo.heap.size + 1 by simp)
            have hbw := below_drewN (Hbo.out.alloc Hbo.out.size (.cells #[.int .i64 (K : Int), .int .i64 (R : Int), .int .i64 (C1 : Int)] 161)) (na + nq)
            have how := own_drewN (Hown.out.alloc (.cells #[.int .i64 (K : Int), .int .i64 (R : Int), .int .i64 (C1 : Int)] 161)) (na + nq)
            go_wp2_with (at_builtin; go_loud (refine wpList_push et_i64s _ rfl (.tmp 76) (.tmp 78) rfl w3.heap.size (.slice Al t cl) t _ rfl how [.int .i64 (mulQ (nth ev R) (nth vv C1) q)] (congrArg (fun b : Nat => Value.slice (some ⟨b, 0, none⟩) 1 1) hsz9.out.symm) rfl (by simp [Value.oneCell']) (by omega) (by unfold maxLen; omega) hbw.size ?_))
            intro g6 c6 w6 ho6 hb6 hg6
            have hb6' := hbw.trans hb6
            have HO6 := Lib.hid ho6; have HB6 := Lib.hid hb6'
            clear ho6 hb6 hg6 hb6' how hbw
            go_wp2_with fail
            go_roundw
            case rel =>
              refine ⟨t + 1, by omega, by go_num, ?_, HB6.out⟩
              have hv := Hgv.out
              rw [if_pos (Int.natCast_nonneg _), Int.toNat_natCast] at hv
              rw [Htk.out, hv, nums_append]
              exact HO6.out
            case measure => simp [intOf]; omega
          · have HC := Lib.hid hC
            have hzw : w3.heap.size ≤ wo.heap.size := Hbo.out.size
            have hsz9 := Lib.hid (show ((wo.alloc (.cells #[.int .i64 (K : Int), .int .i64 (R : Int), .int .i64 C] 161)).drewN nq).heap.size = wo.heap.size + 1 by simp)
            have hbw := below_drewN (Hbo.out.alloc Hbo.out.size (.cells #[.int .i64 (K : Int), .int .i64 (R : Int), .int .i64 C] 161)) nq
            have how := own_drewN (Hown.out.alloc (.cells #[.int .i64 (K : Int), .int .i64 (R : Int), .int .i64 C] 161)) nq
            go_wp2_with (at_builtin; go_loud (refine wpList_push et_i64s _ rfl (.tmp 76) (.tmp 78) rfl w3.heap.size (.slice Al t cl) t _ rfl how [.int .i64 (nth ev R)] (congrArg (fun b : Nat => Value.slice (some ⟨b, 0, none⟩) 1 1) hsz9.out.symm) rfl (by simp [Value.oneCell']) (by omega) (by unfold maxLen; omega) hbw.size ?_))
            intro g6 c6 w6 ho6 hb6 hg6
            have hb6' := hbw.trans hb6
            have HO6 := Lib.hid ho6; have HB6 := Lib.hid hb6'
            clear ho6 hb6 hg6 hb6' how hbw
            go_wp2_with fail
            go_roundw
            case rel =>
              refine ⟨t + 1, by omega, by go_num, ?_, HB6.out⟩
              have hv := Hgv.out
              rw [if_neg (by have := HC.out; omega)] at hv
              rw [Htk.out, hv, nums_append]
              exact HO6.out
            case measure => simp [intOf]; omega
        · obtain rfl : t = N := by omega
          have hall := Hown.out
          rw [List.take_of_length_le (by rw [List.length_map, Hpl.out]; exact Nat.le_refl _)] at hall
          have Hall := Lib.hid (Rd.own hall); clear hall
          have hBf := HB2.out.trans ((HB23.out.trans (Hbo.out.mono HB23.out.size)).mono HB2.out.size)
          have HBf := Lib.hid hBf; clear hBf
          go_wp2_with fail
          go_ret
          exact ⟨_, _, rfl, Hall.out, HBf.out⟩
end Go.Proofs.YtfiojofcafjfeaaGreat
namespace Go.Proofs.YtfiojofcafjfeaaGreat
open Go.RowKit

set_option maxRecDepth 100000 in
theorem rule_any (A : Option Addr) (c : Nat) (k : Cfg) (w : World) :
    Calls Tryz.prog 41 #[.agg (cfgVals A c k)] w fun e w' => e = .returned (.agg #[.int .i64 k.rate, .int .i64 k.mom, .int .i64 k.shift]) ∧ Below w.heap.size w w' := by
  obtain ⟨sz, sh, ra, mo, wk, ba, mi, st, bu, ch, wi, ca⟩ := k
  dsimp only [cfgVals]
  obtain ⟨L, hL⟩ : ∃ L, sz.length = L := ⟨_, rfl⟩
  rw [hL]
  clear hL
  go_enter Tryz.func41, Tryz.ntmps41
  go_wp2_with fail
  have e3 := heap_alloc_new (w.alloc (.cells #[.slice A L c, .int .i64 sh, .int .i64 ra, .int .i64 mo, .int .i64 wk, .int .i64 ba, .int .i64 mi, .int .i64 st, .int .i64 bu, .int .i64 ch, .int .i64 wi, .int .i64 ca] 24)) (.cells #[.int .i64 ra, .int .i64 mo, .int .i64 sh] 90)
  rw [show (w.alloc (.cells #[.slice A L c, .int .i64 sh, .int .i64 ra, .int .i64 mo, .int .i64 wk, .int .i64 ba, .int .i64 mi, .int .i64 st, .int .i64 bu, .int .i64 ch, .int .i64 wi, .int .i64 ca] 24)).heap.size = w.heap.size + 1 by simp] at e3
  have hB : Below w.heap.size w ((w.alloc (.cells #[.slice A L c, .int .i64 sh, .int .i64 ra, .int .i64 mo, .int .i64 wk, .int .i64 ba, .int .i64 mi, .int .i64 st, .int .i64 bu, .int .i64 ch, .int .i64 wi, .int .i64 ca] 24)).alloc (.cells #[.int .i64 ra, .int .i64 mo, .int .i64 sh] 90)) := ((Below.refl _ w).alloc (Nat.le_refl _) _).alloc (by simp) _
  obtain ⟨W9, hW9⟩ : ∃ W9, W9 = (w.alloc (.cells #[.slice A L c, .int .i64 sh, .int .i64 ra, .int .i64 mo, .int .i64 wk, .int .i64 ba, .int .i64 mi, .int .i64 st, .int .i64 bu, .int .i64 ch, .int .i64 wi, .int .i64 ca] 24)).alloc (.cells #[.int .i64 ra, .int .i64 mo, .int .i64 sh] 90) := ⟨_, rfl⟩
  rw [← hW9] at e3 hB ⊢
  clear hW9
  have r0 := cell_of_row W9 _ 0 _ _ _ e3
  have r1 := cell_of_row W9 _ 1 _ _ _ e3
  have r2 := cell_of_row W9 _ 2 _ _ _ e3
  have rf := fun j => frozen_of_row W9 _ j _ _ e3
  exact bodyPost_ret (v := .agg #[.int .i64 ra, .int .i64 mo, .int .i64 sh]) (by simp [results, Tryz.results41, go_sem, r0, r1, r2]) rfl ⟨rfl, hB⟩

set_option maxRecDepth 100000 in
theorem rnet14_any (A : Option Addr) (c : Nat) (D : Option Addr) (cd : Nat) (T : Option Addr) (ct : Nat) (R : Option Addr) (cr : Nat) (i : Inp) (P : Option Addr) (pn pc : Nat) (w : World) :
    Calls Tryz.prog 51 #[.agg (inpVals A c D cd T ct R cr i), .slice P pn pc] w fun e w' => e = .returned (.agg #[.slice A i.cfg.sizes.length c, .slice P pn pc, .int .i64 i.cfg.shift]) ∧ Below w.heap.size w w' := by
  obtain ⟨⟨sz, sh, ra, mo, wk, ba, mi, st, bu, ch, wi, ca⟩, data, start, draws⟩ := i
  dsimp only [inpVals]
  obtain ⟨L, hL⟩ : ∃ L, sz.length = L := ⟨_, rfl⟩
  obtain ⟨N, hN⟩ : ∃ N, data.length = N := ⟨_, rfl⟩
  obtain ⟨M, hM⟩ : ∃ M, start.length = M := ⟨_, rfl⟩
  obtain ⟨Q, hQ⟩ : ∃ Q, draws.length = Q := ⟨_, rfl⟩
  rw [hL, hN, hM, hQ]
  clear hL hN hM hQ
  go_enter Tryz.func51, Tryz.ntmps51
  go_wp2_with fail
  have e3 := heap_alloc_new (w.alloc (.cells #[.slice A L c, .int .i64 sh, .int .i64 ra, .int .i64 mo, .int .i64 wk, .int .i64 ba, .int .i64 mi, .int .i64 st, .int .i64 bu, .int .i64 ch, .int .i64 wi, .int .i64 ca, .slice D N cd, .slice T M ct, .slice R Q cr] 29)) (.cells #[.slice A L c, .slice P pn pc, .int .i64 sh] 112)
  rw [show (w.alloc (.cells #[.slice A L c, .int .i64 sh, .int .i64 ra, .int .i64 mo, .int .i64 wk, .int .i64 ba, .int .i64 mi, .int .i64 st, .int .i64 bu, .int .i64 ch, .int .i64 wi, .int .i64 ca, .slice D N cd, .slice T M ct, .slice R Q cr] 29)).heap.size = w.heap.size + 1 by simp] at e3
  have hB : Below w.heap.size w ((w.alloc (.cells #[.slice A L c, .int .i64 sh, .int .i64 ra, .int .i64 mo, .int .i64 wk, .int .i64 ba, .int .i64 mi, .int .i64 st, .int .i64 bu, .int .i64 ch, .int .i64 wi, .int .i64 ca, .slice D N cd, .slice T M ct, .slice R Q cr] 29)).alloc (.cells #[.slice A L c, .slice P pn pc, .int .i64 sh] 112)) := ((Below.refl _ w).alloc (Nat.le_refl _) _).alloc (by simp) _
  obtain ⟨W9, hW9⟩ : ∃ W9, W9 = (w.alloc (.cells #[.slice A L c, .int .i64 sh, .int .i64 ra, .int .i64 mo, .int .i64 wk, .int .i64 ba, .int .i64 mi, .int .i64 st, .int .i64 bu, .int .i64 ch, .int .i64 wi, .int .i64 ca, .slice D N cd, .slice T M ct, .slice R Q cr] 29)).alloc (.cells #[.slice A L c, .slice P pn pc, .int .i64 sh] 112) := ⟨_, rfl⟩
  rw [← hW9] at e3 hB ⊢
  clear hW9
  have r0 := cell_of_row W9 _ 0 _ _ _ e3
  have r1 := cell_of_row W9 _ 1 _ _ _ e3
  have r2 := cell_of_row W9 _ 2 _ _ _ e3
  have rf := fun j => frozen_of_row W9 _ j _ _ e3
  exact bodyPost_ret (v := .agg #[.slice A L c, .slice P pn pc, .int .i64 sh]) (by simp [results, Tryz.results51, go_sem, r0, r1, r2]) rfl ⟨rfl, hB⟩

set_option maxRecDepth 100000 in
theorem back_any (A B : Option Addr) (n c m d : Nat) (w : World) :
    Calls Tryz.prog 28 #[.agg #[.slice A n c, .slice B m d]] w fun e w' => e = .returned (.agg #[.slice A n c, .slice B m d]) ∧ Below w.heap.size w w' := by
  go_enter Tryz.func28, Tryz.ntmps28
  go_wp2_with fail
  have e3 := heap_alloc_new (w.alloc (.cells #[.slice A n c, .slice B m d] 71)) (.cells #[.slice A n c, .slice B m d] 68)
  rw [show (w.alloc (.cells #[.slice A n c, .slice B m d] 71)).heap.size = w.heap.size + 1 by simp] at e3
  have hB : Below w.heap.size w ((w.alloc (.cells #[.slice A n c, .slice B m d] 71)).alloc (.cells #[.slice A n c, .slice B m d] 68)) := ((Below.refl _ w).alloc (Nat.le_refl _) _).alloc (by simp) _
  obtain ⟨W9, hW9⟩ : ∃ W9, W9 = (w.alloc (.cells #[.slice A n c, .slice B m d] 71)).alloc (.cells #[.slice A n c, .slice B m d] 68) := ⟨_, rfl⟩
  rw [← hW9] at e3 hB ⊢
  clear hW9
  have r0 := cell_of_row W9 _ 0 _ _ _ e3
  have r1 := cell_of_row W9 _ 1 _ _ _ e3
  have rf := fun j => frozen_of_row W9 _ j _ _ e3
  exact bodyPost_ret (v := .agg #[.slice A n c, .slice B m d]) (by simp [results, Tryz.results28, go_sem, r0, r1]) rfl ⟨rfl, hB⟩

end Go.Proofs.YtfiojofcafjfeaaGreat
