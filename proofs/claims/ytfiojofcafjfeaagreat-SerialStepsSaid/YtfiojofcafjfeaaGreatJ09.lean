/- The walk of Net.Trace. No condition. -/
import Derived.Test.YtfiojofcafjfeaaGreatJ07
import Derived.Test.YtfiojofcafjfeaaGreatJ08
import Derived.Deep.RegionHeld3
import Derived.Deep.DeepCutAuto
set_option linter.unusedSimpArgs false
set_option linter.unusedVariables false
namespace Go.Proofs.YtfiojofcafjfeaaGreat
open Go.RowKit

theorem trace_nil (v : Value) (w : World) : Calls Tryz.prog 125 #[.pointer none, v] w fun e w' => e = .returned (.tuple #[.slice none 0 0, .bool false]) ∧ w = w' := by
  go_enter Tryz.func125, Tryz.ntmps125
  go_wp2
  go_ret2
  exact ⟨rfl, rfl⟩

theorem trace_no (b : Nat) (sz ps : List Int) (q : Int) (A : Option Addr) (m c : Nat) (w : World) (h : NetAt 138 170 w b sz ps q) (hg : GoodSz sz) (hm : m ≠ szN sz 0) :
    Calls Tryz.prog 125 #[.pointer (some ⟨b, 0, none⟩), .slice A m c] w fun e w' => e = .returned (.tuple #[.slice none 0 0, .bool false]) ∧ Below w.heap.size w w' := by
  obtain ⟨S, Ap, cp, Al, cl, rows, h0, h1, h2, h3, h4, h5, h6⟩ := h
  have r0 := cell_of_row w _ 0 _ _ _ h0
  have r1 := cell_of_row w _ 1 _ _ _ h0
  have r2 := cell_of_row w _ 2 _ _ _ h0
  have r3 := cell_of_row w _ 3 _ _ _ h0
  have rf := fun j => frozen_of_row w _ j _ _ h0
  have hs := shape_sizes S sz w h1 (by have := hg.1.1.2; omega)
  have z0 := hg.1.at (k := 0) (by have := hg.1.1.1; omega)
  have hlen : 0 < sz.length := by have := hg.1.1.1; omega
  have hne : ((m : Int) != (szN sz 0 : Int)) = true := by simp; omega
  have Hs := Lib.hid hs; have Z0 := Lib.hid z0.2.2; clear hs h0 h1 h2 h3 h4 h5 h6 hg z0 hm
  go_enter Tryz.func125, Tryz.ntmps125
  go_wp2_with fail
  refine Hs.out.mono ?_
  rintro e w1 ⟨A1, c1, rfl, ho, hb⟩
  obtain ⟨g, c', hv, _, _⟩ := ho.form hlen
  simp only [Value.slice.injEq] at hv
  obtain ⟨rfl, _, rfl⟩ := hv
  have p0 := own_num ho hlen
  rw [Z0.out] at p0
  have Hb := Lib.hid hb; clear hb ho r0 r1 r2 r3 rf
  go_wp2
  go_ret2
  exact ⟨rfl, Hb.out⟩

theorem own_made1 (w : World) (e : TypeId) (v : Value) (base : Nat) (hb : base ≤ w.heap.size) : (w.alloc (.cells #[v] e)).ownsRow base e 1 (.slice (some ⟨w.heap.size, 0, none⟩) 1 1) 1 [v] :=
  ⟨by simp, .inr ⟨w.heap.size, 1, #[v], rfl, hb, heap_alloc_new w _, Nat.le_refl _, by unfold maxLen; omega, by simp, by simp⟩⟩

/-- Where the loop of Trace has come to: the vectors of the layers up to k. -/
def TraceI (sz ps : List Int) (q : Int) (x : List Int) (P n₀ : Nat) (k : Nat) (w0 w : World) : Prop :=
  ∃ A c vals, w.heap[P]? = some (.cells #[.slice A (k + 1) c] 165 (0, 0)) ∧ w.ownsRow n₀ 52 1 (.slice A (k + 1) c) (k + 1) vals ∧
    (∀ j, j ≤ k → ∃ Aj cj, vals[j]? = some (.slice Aj (szN sz j) cj) ∧ w.ownsRow n₀ 2 1 (.slice Aj (szN sz j) cj) (szN sz j) (nums .i64 (valL sz ps q x j))) ∧ Below n₀ w0 w

set_option maxRecDepth 100000 in
set_option maxHeartbeats 2000000 in
theorem trace_ok (b : Nat) (sz ps : List Int) (q : Int) (A : Option Addr) (x : List Int) (c : Nat) (w : World) (h : NetAt 138 170 w b sz ps q) (hg : GoodSz sz) (wp : W64 ps) (hA : Rd w A (nums .i64 x)) (hx : x.length = szN sz 0) (wx : W64 x) :
    Calls Tryz.prog 125 #[.pointer (some ⟨b, 0, none⟩), .slice A x.length c] w fun e w' => ∃ A' c' vals, e = .returned (.tuple #[.slice A' sz.length c', .bool true]) ∧ Rd w' A' vals ∧ VecsAt w' vals sz.length (valL sz ps q x) ∧ sz.length ≤ c' ∧ Below w.heap.size w w' := by
  have hbl := h.lt
  obtain ⟨S, Ap, cp, Al, cl, rows, h0, h1, h2, h3, h4, h5, h6⟩ := h
  have r0 := cell_of_row w _ 0 _ _ _ h0
  have r1 := cell_of_row w _ 1 _ _ _ h0
  have r2 := cell_of_row w _ 2 _ _ _ h0
  have r3 := cell_of_row w _ 3 _ _ _ h0
  have rf := fun j => frozen_of_row w _ j _ _ h0
  have z0 := hg.1.at (k := 0) (by have := hg.1.1.1; omega)
  have hs := shape_sizes S sz w h1 (by have := hg.1.1.2; omega)
  have hcl := fun w' (k : Below w.heap.size w w') => vclone_any A x c w' (hA.below k) (by omega)
  obtain ⟨n, hn⟩ : ∃ n, sz.length - 1 = n := ⟨_, rfl⟩
  have hnl : sz.length = n + 1 := by have := hg.1.1.1; omega
  have hnb : 1 ≤ n ∧ n ≤ 15 := by have := hg.1.1; omega
  obtain ⟨m, hm⟩ : ∃ m, szN sz 0 = m := ⟨_, rfl⟩
  rw [hn] at r3 h4 h6
  rw [hx, hm] at hcl ⊢
  have hlen : 0 < sz.length := by omega
  have hne : ((m : Int) != (m : Int)) = false := by simp
  have hmb : m ≤ 1048576 := by rw [← hm]; exact z0.2.1
  rw [hm] at z0
  have Hs := Lib.hid hs; have Z0 := Lib.hid z0.2.2; have Hcl := Lib.hid hcl; have HG := Lib.hid hg; have Hn := Lib.hid hn; have Hnl := Lib.hid hnl; have Hm := Lib.hid hm; have H0 := Lib.hid h0; have H3 := Lib.hid h3; have H4 := Lib.hid h4; have H5 := Lib.hid h5; have H6 := Lib.hid h6; have WP := Lib.hid wp; have WX := Lib.hid wx; have Hx := Lib.hid hx; have HA := Lib.hid hA
  clear hs hcl h0 h1 h2 h3 h4 h5 h6 hg z0 hm hn hnl wp wx hx hA
  go_enter Tryz.func125, Tryz.ntmps125
  go_wp2_with fail
  refine Hs.out.mono ?_
  rintro e w1 ⟨A1, c1, rfl, ho, hb⟩
  obtain ⟨g, c', hv, _, _⟩ := ho.form hlen
  simp only [Value.slice.injEq] at hv
  obtain ⟨rfl, _, rfl⟩ := hv
  have p0 := own_num ho hlen
  rw [Z0.out] at p0
  have Hb := Lib.hid hb; clear hb ho r0 r1 r2 r3 rf
  go_wp2_with fail
  refine (Hcl.out _ Hb.out).mono ?_
  rintro e w2 ⟨A2, c2, rfl, hc2, ho2, hb2⟩
  have hW2 := Hb.out.trans (hb2.mono Hb.out.size)
  have hN2 := (hW2.block b hbl).trans H0.out
  have r0 := cell_of_row w2 _ 0 _ _ _ hN2
  have r1 := cell_of_row w2 _ 1 _ _ _ hN2
  have r2 := cell_of_row w2 _ 2 _ _ _ hN2
  have r3 := cell_of_row w2 _ 3 _ _ _ hN2
  have rf := fun j => frozen_of_row w2 _ j _ _ hN2
  have hbl2 := lt_of_block hN2
  have hx2 := Hx.out
  rw [Hm.out] at hx2
  have hw1s := Hb.out.size
  have Ho2 := Lib.hid (own_base ho2 hw1s); have HW2 := Lib.hid hW2; have HN2 := Lib.hid hN2; clear ho2 hb2 hW2 hN2 hw1s
  rw [Hn.out] at r3
  go_wp2_with fail
  go_loopw [37] (fun i wr => ∃ k : Nat, k ≤ n ∧ i = .int .i64 k ∧ TraceI sz ps q x (w2.heap.size + 1) w.heap.size k w wr) (fun i _ => n - (intOf i).toNat)
  case atStart =>
    refine ⟨0, Nat.zero_le _, rfl, some ⟨w2.heap.size, 0, none⟩, 1, [.slice A2 m c2], ?_, ?_, ?_, ?_⟩
    · have := heap_alloc_new (w2.alloc (.cells #[.slice A2 m c2] 52)) (.cells #[.slice (some ⟨w2.heap.size, 0, none⟩) 1 1] 165)
      simpa using this
    · exact (own_made1 w2 52 (.slice A2 m c2) w.heap.size HW2.out.size).alloc _
    · intro j hj
      obtain rfl : j = 0 := by omega
      refine ⟨A2, c2, by rw [Hm.out]; rfl, ?_⟩
      rw [Hm.out]
      exact (Ho2.out.alloc _).alloc _
    · have hW2 := HW2.out
      have hz2 := HW2.out.size
      (focus (repeat' (first | (with_reducible exact Below.refl _ _) | (with_reducible assumption) | (with_reducible refine Below.setCell ?_ ?_ _) | (with_reducible refine Below.alloc ?_ ?_ _) | (with_reducible refine below_drewN ?_ _) | (with_reducible refine Below.drew ?_) | (with_reducible exact Nat.le_refl _) | omega | (simp; done) | (simp; omega))))
  case round =>
    obtain ⟨k, hk, rfl, Ao, co, vals, hP, ho, hv, hW⟩ := hrel
    have hkn : k < sz.length := by have := Hnl.out; omega
    have hNr := (hW.block b hbl).trans H0.out
    have r0 := cell_of_row wr _ 0 _ _ _ hNr
    have r1 := cell_of_row wr _ 1 _ _ _ hNr
    have r2 := cell_of_row wr _ 2 _ _ _ hNr
    have r3 := cell_of_row wr _ 3 _ _ _ hNr
    have rf := fun j => frozen_of_row wr _ j _ _ hNr
    have p0 := cell_of_row wr _ 0 _ _ _ hP
    have pf := fun j => frozen_of_row wr _ j _ _ hP
    obtain ⟨go, co', hvo, hgo, _⟩ := ho.form (by omega)
    simp only [Value.slice.injEq] at hvo
    obtain ⟨rfl, hvx, rfl⟩ := hvo
    clear hvx
    have hPl := lt_of_block hP
    have hbr : b < wr.heap.size := lt_of_block hNr
    have hz := hW.size
    have HP := Lib.hid hP; have Ho := Lib.hid ho; have Hv := Lib.hid hv; have HW := Lib.hid hW; have HNr := Lib.hid hNr
    clear hP ho hv hW hNr
    rw [Hn.out] at r3
    by_cases hlt : k < n
    · have hR := HG.out.1
      have hk1 : k + 1 < sz.length := by have := Hnl.out; omega
      have z0 := hR.at hkn
      have z1 := hR.at hk1
      have hmul := HG.out.mul hk1
      obtain ⟨gl, ol, dl, Bl, el, hcs, hd, hrw, hrb⟩ := H6.out k hlt
      have hrl : (rowOf rows k).length = 4 := H5.out _ (by rw [rowOf_get (by rw [H4.out]; exact hlt)]; exact List.getElem_mem _)
      have hcl : ∀ t, t < 4 → (List.flatten rows)[k * 4 + t]? = (rowOf rows k)[t]? := fun t ht => flat_get H5.out k t (by rw [H4.out]; exact hlt) ht
      have e0 := hcl 0 (by omega); have e1 := hcl 1 (by omega); have e2 := hcl 2 (by omega); have e3 := hcl 3 (by omega)
      rw [hcs] at e0 e1 e2 e3
      simp only [Nat.add_zero, List.getElem?_cons_zero, List.getElem?_cons_succ] at e0 e1 e2 e3
      obtain ⟨bl, oo, hAl, q0⟩ := H3.out _ _ e0
      obtain ⟨_, _, hAl1, q1⟩ := H3.out _ _ e1
      obtain ⟨_, _, hAl2, q2⟩ := H3.out _ _ e2
      obtain ⟨_, _, hAl3, q3⟩ := H3.out _ _ e3
      subst hAl
      injection hAl1 with hAl1; injection hAl1 with i1 i2 _; subst i1; subst i2
      injection hAl2 with hAl2; injection hAl2 with i1 i2 _; subst i1; subst i2
      injection hAl3 with hAl3; injection hAl3 with i1 i2 _; subst i1; subst i2
      have hbb : bl < w.heap.size := lt_of_cell q0
      have q0r := (HW.out.cell (p := ⟨bl, oo + k * 4, none⟩) hbb).trans q0
      have q1r := (HW.out.cell (p := ⟨bl, oo + (k * 4 + 1), none⟩) hbb).trans q1
      have q2r := (HW.out.cell (p := ⟨bl, oo + (k * 4 + 2), none⟩) hbb).trans q2
      have q3r := (HW.out.cell (p := ⟨bl, oo + (k * 4 + 3), none⟩) hbb).trans q3
      rw [← Nat.add_assoc] at q1r q2r q3r
      obtain ⟨Aj, cj, hvj, hoj⟩ := Hv.out k (Nat.le_refl _)
      have pj := (Rd.own Ho.out) k _ hvj
      obtain ⟨_, _, ej, pj⟩ := pj
      injection ej with ej; injection ej with i1 i2 _; subst i1; subst i2
      rw [Nat.zero_add] at pj
      have wv := valL_W64 (sz := sz) (ps := ps) (q := q) WX.out k
      have hvl := valL_len (sz := sz) (ps := ps) (q := q) Hx.out k
      have hml := fun W (h : Below wr.heap.size wr W) => mmul_any (szN sz (k + 1)) (szN sz k) gl ol (szN sz (k + 1) * szN sz k) dl (wL sz ps k) Aj (valL sz ps q x k) cj q W ⟨z1.1, z1.2.1⟩ ⟨z0.1, z0.2.1⟩ rfl hd (by omega) (wL_len _ _ _) ((hrw.below HW.out).below h) (wL_W64 WP.out sz k) ((Rd.own hoj).below h) hvl wv
      obtain ⟨r, hr⟩ : ∃ r, szN sz (k + 1) = r := ⟨_, rfl⟩
      obtain ⟨c0, hc0⟩ : ∃ c0, szN sz k = c0 := ⟨_, rfl⟩
      obtain ⟨nn, hnn⟩ : ∃ nn, szN sz (k + 1) * szN sz k = nn := ⟨_, rfl⟩
      rw [hnn] at hml q2r hmul hd
      rw [hr] at hml q0r q3r z1
      rw [hc0] at hml q1r z0
      have pjl := pj
      rw [hc0] at pjl
      have hrbr := hrb.below HW.out
      have Hml := Lib.hid hml; have Hr := Lib.hid hr; have Hc0 := Lib.hid hc0; have Hnn := Lib.hid hnn; have Hrb := Lib.hid hrbr; have Hvl := Lib.hid hvl
      clear hml hr hc0 hnn hrb hrbr hrw hd q0 q1 q2 q3 e0 e1 e2 e3 hcl hrl hcs pj hvl hvj hoj
      go_wp2_with fail
      obtain ⟨V, hV⟩ : ∃ V, V = wr.alloc (.cells #[.int .i64 r, .int .i64 c0, .slice (some ⟨gl, ol, none⟩) nn dl, .slice Bl r el] 175) := ⟨_, rfl⟩
      have hV9 : V.heap[wr.heap.size]? = some (.cells #[.int .i64 r, .int .i64 c0, .slice (some ⟨gl, ol, none⟩) nn dl, .slice Bl r el] 175 (0, 0)) := by rw [hV]; exact heap_alloc_new wr _
      have hVb : Below wr.heap.size wr V := by rw [hV]; exact (Below.refl _ _).alloc (Nat.le_refl _) _
      rw [← hV]
      clear hV
      have v2 := cell_below hVb r2
      have v3 := cell_below hVb r3
      have vp := cell_below hVb p0
      have vj := cell_below hVb pjl
      have y0 := cell_of_row V _ 0 _ _ _ hV9
      have y1 := cell_of_row V _ 1 _ _ _ hV9
      have y2 := cell_of_row V _ 2 _ _ _ hV9
      have y3 := cell_of_row V _ 3 _ _ _ hV9
      have yf := fun j => frozen_of_row V _ j _ _ hV9
      have hbV : b < V.heap.size := lt_of_cell v2
      have hPV : w2.heap.size + 1 < V.heap.size := lt_of_cell vp
      have h9V : wr.heap.size < V.heap.size := lt_of_cell y0
      have hgV : go < V.heap.size := lt_of_cell vj
      obtain ⟨k1, hk1e⟩ : ∃ k1, k + 1 = k1 := ⟨_, rfl⟩
      have hkk : k < k1 := by omega
      rw [hk1e] at vp
      have Hk1 := Lib.hid hk1e; clear hk1e
      have HVb := Lib.hid hVb; have HV9 := Lib.hid hV9; clear hVb hV9 r0 r1 r2 r3 rf p0 pf pjl q0r q1r q2r q3r
      go_region_held3 (fun w' => w'.cell? ⟨wr.heap.size, 0, none⟩ = some (.int .i64 r) ∧ w'.cell? ⟨wr.heap.size, 1, none⟩ = some (.int .i64 c0) ∧ w'.cell? ⟨wr.heap.size, 2, none⟩ = some (.slice (some ⟨gl, ol, none⟩) nn dl) ∧ w'.cell? ⟨w2.heap.size + 1, 0, none⟩ = some (.slice (some ⟨go, 0, none⟩) k1 co) ∧ w'.cell? ⟨go, k, none⟩ = some (.slice Aj c0 cj) ∧ w'.cell? ⟨b, 2, none⟩ = some (.int .i64 q)) (simp [go_sem, *])
        ((go_at_call 142; refine (Hml.out V.drew HVb.out.drew).mono ?_; rintro e w5 ⟨A5, c5, rfl, ho5, hb5⟩; have g0 := cell_below hb5 y0; have g1 := cell_below hb5 y1; have g2 := cell_below hb5 y2; have g3 := cell_below hb5 y3; have g4 := cell_below hb5 vp; have g5 := cell_below hb5 vj; have g6 := cell_below hb5 v2; have g7 := cell_below hb5 v3; have Ho5 := Lib.hid ho5; have Hb5 := Lib.hid hb5; clear ho5 hb5))
      go_wp2_with fail
      have hb05 : Below wr.heap.size wr w5 := (HVb.out.drew).trans (Hb5.out.mono (by have := HVb.out.size; simp; omega))
      have hne : ∀ a b', A5 = some a → Bl = some b' → a.block ≠ b'.block := fun a b' ha hb' => by
        obtain ⟨b1, o1, e1, hc1⟩ := Hrb.out.num (k := 0) (by rw [bL_len, Hr.out]; omega)
        rw [hb'] at e1
        injection e1 with e1
        subst e1
        have l1 : b1 < wr.heap.size := lt_of_cell hc1
        have l2 := (Ho5.out.lt a.block (by rw [ha]; rfl)).1
        have l3 := HVb.out.size
        simp at l2 ⊢
        omega
      refine (add_any _ A5 Bl _ (bL sz ps k) r c5 el w5 Ho5.out (Hrb.out.below hb05) (by rw [bL_len, Hr.out]) (by omega) hne).mono ?_
      rintro e w6 ⟨rfl, ho6, hk6⟩
      have hz6 : addL (mulL (wL sz ps k) r c0 (valL sz ps q x k) q) (bL sz ps k) = zL sz ps q k (valL sz ps q x k) := by unfold zL; rw [Hr.out, Hc0.out]
      rw [hz6] at ho6
      have ho6 := own_base (base' := V.heap.size) ho6 (by simp)
      have hlo5 : ∀ i, (Value.slice A5 r c5).ownBlock = some i → V.heap.size ≤ i := fun i hi => by have := (Ho5.out.lt i hi).1; simpa using this
      have hb6 : Below V.heap.size V w6 := ((Below.refl _ V).drew.trans (Hb5.out.mono (by simp))).trans (hk6.toBelow (by have := Hb5.out.size; simpa using this) hlo5)
      have u2 := (hb6.cell (p := ⟨b, 2, none⟩) hbV).trans v2
      have u3 := (hb6.cell (p := ⟨b, 3, none⟩) hbV).trans v3
      have up := (hb6.cell (p := ⟨w2.heap.size + 1, 0, none⟩) hPV).trans vp
      have Ho6 := Lib.hid ho6; have Hb6 := Lib.hid hb6; have Hlo5 := Lib.hid hlo5
      have hkw : IntKind.i64.wrap ((k : Int) + 1) = (k : Int) + 1 := IntWalk.i64_in _ (by omega)
      have Hkw := Lib.hid hkw
      clear hkw ho6 hb6 hk6 hz6 hlo5 hne Ho5 Hb5 hb05 g0 g1 g2 g3 g4 g5 g6 g7 v2 v3 vp vj y0 y1 y2 y3 yf
      go_upto_if 67 with (fail)
      go_cut [] (fun wx => Below V.heap.size V wx ∧ wx.ownsRow V.heap.size 2 1 (.slice A5 r c5) r (nums .i64 (valL sz ps q x (k + 1))))
      case first =>
        by_cases hlast : k + 1 < n
        · have hvv : valL sz ps q x (k + 1) = reluL (zL sz ps q k (valL sz ps q x k)) := by
            have := Hn.out
            show (if k + 1 < sz.length - 1 then _ else _) = _
            rw [if_pos (by omega)]
          have hzl := zL_len sz ps q k (valL sz ps q x k)
          rw [Hr.out] at hzl
          obtain ⟨z, hz⟩ : ∃ z, zL sz ps q k (valL sz ps q x k) = z := ⟨_, rfl⟩
          rw [hz] at hzl hvv
          have ho7 := Ho6.out
          rw [hz] at ho7
          have hall := mixed_all z (fun i => max (nth z i) 0)
          unfold reluL at hvv
          rw [← hall, hzl] at hvv
          have Hzl := Lib.hid hzl; have Ho7 := Lib.hid ho7; have Hvv := Lib.hid hvv; clear hall hzl hz hvv ho7 u2 u3 up
          go_wp2_with fail
          have hdec : decide ((k : Int) + 1 < n) = true := decide_eq_true (by omega)
          rw [hdec]
          clear hlast hdec
          go_loopw [70] (fun i wx => ∃ j : Nat, j ≤ r ∧ i = .int .i64 j ∧ wx.ownsRow V.heap.size 2 1 (.slice A5 r c5) r (nums .i64 (mixed z j (fun i => max (nth z i) 0))) ∧ Below V.heap.size V wx) (fun i _ => r - (intOf i).toNat)
          case atStart => exact ⟨0, Nat.zero_le _, rfl, by rw [mixed_zero]; exact Ho7.out, Hb6.out⟩
          case round =>
            obtain ⟨j, hj, rfl, hown, hb7⟩ := hrel
            by_cases hlt : j < r
            · obtain ⟨g7, d7, hv7, hg7, _⟩ := hown.form (by omega)
              simp only [Value.slice.injEq] at hv7
              obtain ⟨rfl, hx7, rfl⟩ := hv7
              clear hx7
              have hjz : j < z.length := by rw [Hzl.out]; exact hlt
              have p1 := own_num hown hlt
              rw [mixed_nth _ hjz, if_neg (by omega)] at p1
              have f1 := hown.frozenAt j
              have hst := mixed_set (l := z) (k := j) (fun i => max (nth z i) 0) hjz
              have HO := Lib.hid hown; have HB := Lib.hid hb7; have Hst := Lib.hid hst; clear hown hb7 hst hjz
              go_wp2_with fail
              refine (relu_any _ _).mono ?_
              rintro e w9 ⟨rfl, rfl⟩
              go_wp2_with fail
              go_roundw
              case rel => exact ⟨j + 1, by omega, by go_num, by rw [← Hst.out]; exact own_put HO.out j _, HB.out.setCell (p := ⟨g7, j, none⟩) hg7 _⟩
              case measure => simp [intOf]; omega
            · obtain rfl : j = r := by omega
              have HO := Lib.hid hown; have HB := Lib.hid hb7; clear hown hb7
              go_wp2_with fail
              go_meet
              exact ⟨HB.out, by rw [Hvv.out]; exact HO.out⟩
        · have hvv : valL sz ps q x (k + 1) = zL sz ps q k (valL sz ps q x k) := by
            have := Hn.out
            show (if k + 1 < sz.length - 1 then _ else _) = _
            rw [if_neg (by omega)]
          have Hvv := Lib.hid hvv; clear hvv
          go_wp2_with fail
          go_meet
          exact ⟨Hb6.out, by rw [Hvv.out]; exact Ho6.out⟩
      case rest =>
        obtain ⟨hb7, ho7⟩ := hcut
        have hbr7 : Below wr.heap.size wr wc := HVb.out.trans (hb7.mono HVb.out.size)
        have hP7 := (hbr7.block _ hPl).trans HP.out
        have ho17 := own_below Ho.out hbr7
        have Hb7 := Lib.hid hb7; have Ho7 := Lib.hid ho7; have HP7 := Lib.hid hP7; have Ho17 := Lib.hid ho17; have Hbr7 := Lib.hid hbr7; clear hb7 ho7 hP7 ho17 hbr7 u2 u3 up
        have hwz : w.heap.size ≤ wc.heap.size := by have := Hbr7.out.size; omega
        have hwP : w.heap.size ≤ w2.heap.size + 1 := by have := HW2.out.size; omega
        have htr := trace1_any (w2.heap.size + 1) w.heap.size (some ⟨go, 0, none⟩) A5 (k + 1) co r c5 vals wc HP7.out Ho17.out (by omega) hwz hwP
        have Htr := Lib.hid htr; clear htr
        go_wp2_with fail
        refine Htr.out.mono ?_
        rintro e w8 ⟨⟨v8, rfl⟩, A8, c8, hP8, ho8, hk8⟩
        have hbw8 : Below w.heap.size w w8 := (HW.out.trans (Hbr7.out.mono HW.out.size)).trans (hk8.toBelow hwz (fun i hi => by
          rcases hi with rfl | hi
          · exact hwP
          · exact (Ho17.out.lt i hi).1))
        have hkeep : ∀ {m : Nat} {u : Value} {ys : List Value}, wc.ownsRow w.heap.size 2 1 u m ys → w8.ownsRow w.heap.size 2 1 u m ys := fun h => hk8.own h (fun i hi e => by
          rcases e with rfl | e
          · exact block_notrow HP7.out (by decide) h hi.symm
          · exact own_types Ho17.out h (by decide) i e hi)
        have hvl0 := Ho17.out.1
        go_wp2_with fail
        go_roundw
        case rel =>
          refine ⟨k + 1, by omega, by go_num, A8, c8, vals ++ [.slice A5 r c5], hP8, ho8, fun j hj => ?_, hbw8⟩
          rcases Nat.lt_or_ge j (k + 1) with hjk | hjk
          · obtain ⟨Aj, cj, h1, h2⟩ := Hv.out j (by omega)
            exact ⟨Aj, cj, by rw [List.getElem?_append_left (by omega)]; exact h1, hkeep (own_below h2 Hbr7.out)⟩
          · obtain rfl : j = k + 1 := by omega
            refine ⟨A5, c5, ?_, ?_⟩
            · rw [List.getElem?_append_right (by omega), Hr.out]
              simp [show vals.length = k + 1 by omega]
            · rw [Hr.out]
              exact hkeep (own_base Ho7.out (by have := HVb.out.size; omega))
        case measure => simp [intOf]; omega
    · obtain rfl : k = n := by omega
      have hnl := Hnl.out
      have hva : VecsAt wr vals sz.length (valL sz ps q x) := by
        refine ⟨?_, fun j hj => ?_⟩
        · have := Ho.out.1; omega
        · obtain ⟨Aj, cj, h1, h2⟩ := Hv.out j (by omega)
          have hvl := valL_len (sz := sz) (ps := ps) (q := q) Hx.out j
          obtain ⟨A', c', e, hc⟩ := own_form h2
          injection e with e1 e2 e3
          subst e1; subst e3
          rw [hvl]
          exact ⟨_, _, h1, hc, Rd.own h2⟩
      have hcc : sz.length ≤ co := by
        obtain ⟨A', c', e, hc⟩ := own_form Ho.out
        injection e with e1 e2 e3
        omega
      have hro := Rd.own Ho.out
      have Hro := Lib.hid hro; have Hva := Lib.hid hva; have Hcc := Lib.hid hcc; clear hro hva hcc
      clear hnl
      go_wp2_with fail
      go_ret2
      exact ⟨some ⟨go, 0, none⟩, co, vals, (by rw [Hnl.out]; rfl), Hro.out, Hva.out, Hcc.out, HW.out⟩
end Go.Proofs.YtfiojofcafjfeaaGreat
