/- The reference's Check and Few of examples. The reference's check of an input. The reference's Few of an input. No condition. -/
import Derived.Test.YtaccfnffmbndhaaGreatK12
import Derived.Deep.RegionHeld3
import Derived.Test.YtaccfnffmbndhaaGreatK04
import Derived.Test.YtaccfnffmbndhaaGreatK16
import Derived.Test.YtaccfnffmbndhaaGreatK21
set_option linter.unusedSimpArgs false
set_option linter.unusedVariables false
namespace Go.Proofs.YtaccfnffmbndhaaGreat
open Go.RowKit
set_option maxRecDepth 100000 in
theorem rdcheck_any (a b c : Nat) (A : Option Addr) (l : List Ex) (w : World) (h : SlRd rEx 2 w A l) (hl : l.length ≤ 1048576) :
    Calls Tryz.prog 61 #[.slice A l.length c, .int .i64 a, .int .i64 b] w (DChkIs l a b w) := by
  unfold DChkIs
  obtain ⟨n, hn⟩ : ∃ n, l.length = n := ⟨_, rfl⟩
  rw [hn] at hl ⊢
  have H := Lib.hid h; have Hn := Lib.hid hn; clear h hn
  go_enter Tryz.func61, Tryz.ntmps61
  go_wp2_with fail
  go_loopw [8] (fun i wr => ∃ k : Nat, k ≤ n ∧ i = .int .i64 k ∧ Hid (∀ j x, j < k → l[j]? = some x → fitEx a b x) ∧ wr = w) (fun i _ => n - (intOf i).toNat)
  case atStart => exact ⟨0, Nat.zero_le _, rfl, Lib.hid fun j x hj => by omega, rfl⟩
  case round =>
    obtain ⟨k, hk, rfl, Hall, rfl⟩ := hrel
    by_cases hlt : k < n
    · obtain ⟨x, hx⟩ : ∃ x, l[k]? = some x := ⟨_, List.getElem?_eq_getElem (by rw [Hn.out]; exact hlt)⟩
      obtain ⟨b', o, A1, c1, A2, c2, rfl, hbl, p1, p2, r1, r2⟩ := ex_cells H.out hx
      have Hx := Lib.hid hx
      obtain ⟨n1, hn1⟩ : ∃ n1, x.1.length = n1 := ⟨_, rfl⟩
      obtain ⟨n2, hn2⟩ : ∃ n2, x.2.length = n2 := ⟨_, rfl⟩
      rw [hn1] at p1
      rw [hn2] at p2
      have hfi : fitEx a b x ↔ n1 = a ∧ n2 = b := by unfold fitEx; rw [hn1, hn2]
      have Hf := Lib.hid hfi
      have hlti : (k : Int) < n := by omega
      clear r1 r2 hx hn1 hn2 hfi
      by_cases e1 : n1 ≠ a
      · have hq : ((n1 : Int) != (a : Int)) = true := by rw [bne_iff_ne]; omega
        go_wp2_with fail
        go_ret2
        exact ⟨Below.refl _ _, k, .inr ⟨fun h => e1 (Hf.out.1 (h x (List.mem_of_getElem? Hx.out))).1, rfl⟩⟩
      have hq1 : ((n1 : Int) != (a : Int)) = false := by rw [bne_eq_false_iff_eq]; omega
      by_cases e2 : n2 ≠ b
      · have hq : ((n2 : Int) != (b : Int)) = true := by rw [bne_iff_ne]; omega
        have E2 := Lib.hid e2; clear e1 e2
        go_wp2_with fail
        go_ret2
        exact ⟨Below.refl _ _, k, .inr ⟨fun h => E2.out (Hf.out.1 (h x (List.mem_of_getElem? Hx.out))).2, rfl⟩⟩
      have hq2 : ((n2 : Int) != (b : Int)) = false := by rw [bne_eq_false_iff_eq]; omega
      have He := Lib.hid (Hf.out.2 ⟨by omega, by omega⟩)
      clear e1 e2
      go_wp2_with fail
      go_roundw
      case rel => exact ⟨k + 1, by omega, by go_num, Lib.hid (p := ∀ j x, j < k + 1 → l[j]? = some x → fitEx a b x) fun j y hj hy => by
        rcases Nat.lt_or_ge j k with h | h
        · exact Hall.out j y h hy
        · obtain rfl : j = k := by omega
          have := Hx.out; rw [hy] at this; injection this with this; rw [this]; exact He.out, trivial⟩
      case measure => simp [intOf]; omega
    · obtain rfl : n = k := by omega
      go_wp2_with fail
      go_ret2
      exact ⟨Below.refl _ _, 0, .inl ⟨fun x hx => by
        obtain ⟨j, hj, e⟩ := List.mem_iff_getElem.1 hx
        exact Hall.out j x (by rw [← Hn.out]; exact hj) (by rw [List.getElem?_eq_getElem hj, e]), rfl⟩⟩
def FewB (q : Prop) (w : World) (e : Ending) (w' : World) : Prop := (∃ b : Bool, e = .returned (.bool b) ∧ (b = true → q)) ∧ ∃ n, w' = w.drewN n
theorem fewB_any {q : Prop} (hq : q) (b : Bool) (w : World) (d : Nat) : FewB q w (.returned (.bool b)) (w.drewN d) := ⟨⟨b, rfl, fun _ => hq⟩, d, rfl⟩
theorem fewB_no (q : Prop) (w : World) (d : Nat) : FewB q w (.returned (.bool false)) (w.drewN d) := ⟨⟨false, rfl, fun h => by cases h⟩, d, rfl⟩
set_option maxRecDepth 100000 in
theorem rfew_any (c : Nat) (A : Option Addr) (l : List Ex) (w : World) (h : SlRd rEx 2 w A l) (hl : l.length ≤ 17592186043904) :
    Calls Tryz.prog 131 #[.slice A l.length c] w (FewB (l.length ≤ 60) w) := by
  obtain ⟨n, hn⟩ : ∃ n, l.length = n := ⟨_, rfl⟩
  rw [hn] at hl ⊢
  have H := Lib.hid h; have Hn := Lib.hid hn; clear h hn
  go_enter Tryz.func131, Tryz.ntmps131
  go_wp2_with fail
  go_loopw [3, 4] (fun v i wr => ∃ k : Nat, ∃ x : Int, k ≤ n ∧ i = .int .i64 k ∧ v = .int .i64 x ∧ ∃ d, wr = w.drewN d) (fun _ i _ => n - (intOf i).toNat)
  case atStart => exact ⟨0, 0, Nat.zero_le _, rfl, rfl, 0, rfl⟩
  case round =>
    obtain ⟨k, x, hk, rfl, rfl, d, rfl⟩ := hrel
    by_cases hlt : k < n
    · have hlti : (k : Int) < n := by omega
      by_cases h100 : k < 100
      · have h100i : (k : Int) < 100 := by omega
        obtain ⟨y, hy⟩ : ∃ y, l[k]? = some y := ⟨_, List.getElem?_eq_getElem (by rw [Hn.out]; exact hlt)⟩
        obtain ⟨b', o, A1, c1, A2, c2, rfl, hbl, p1, p2, r1, r2⟩ := ex_cells H.out hy
        obtain ⟨n1, hn1⟩ : ∃ n1, y.1.length = n1 := ⟨_, rfl⟩
        obtain ⟨n2, hn2⟩ : ∃ n2, y.2.length = n2 := ⟨_, rfl⟩
        rw [hn1] at p1
        rw [hn2] at p2
        clear r1 r2 hy hn1 hn2
        have q1 : (w.drewN d).cell? ⟨b', o + k * 2, none⟩ = some (.slice A1 n1 c1) := p1
        have q2 : (w.drewN d).cell? ⟨b', o + k * 2 + 1, none⟩ = some (.slice A2 n2 c2) := p2
        generalize hW : w.drewN d = W at q1 q2 ⊢
        have HW := Lib.hid hW; clear hW
        go_wp2_with fail
        go_region
        all_goals
          go_wp2_with fail
          go_roundw
          case rel => exact ⟨k + 1, _, by omega, by go_num, rfl, d + 1, by rw [← HW.out]; rfl⟩
          case measure => simp [intOf]; omega
      · have h100i : ¬ ((k : Int) < 100) := by omega
        have h60 : ¬ ((n : Int) ≤ 60) := by omega
        have h60' : ¬ (n ≤ 60) := by omega
        go_wp2_with fail
        all_goals
          go_ret
          exact fewB_no _ _ _
    · obtain rfl : n = k := by omega
      by_cases h60n : n ≤ 60
      · have h60 : (n : Int) ≤ 60 := by omega
        have G := Lib.hid h60n
        go_wp2_with fail
        all_goals
          go_ret
          exact fewB_any G.out _ _ _
      · have h60 : ¬ ((n : Int) ≤ 60) := by omega
        go_wp2_with fail
        all_goals
          go_ret
          exact fewB_no _ _ _
end Go.Proofs.YtaccfnffmbndhaaGreat
namespace Go.Proofs.YtaccfnffmbndhaaGreat
open Go.RowKit
set_option maxRecDepth 100000 in
set_option maxHeartbeats 4000000 in
theorem rinput_any (A : Option Addr) (c : Nat) (D : Option Addr) (cd : Nat) (T : Option Addr) (ct : Nat) (R : Option Addr) (cr : Nat) (i : Inp) (w : World) (h : InpRd w A c D T ct R i) :
    Calls Tryz.prog 15 #[.agg (inpVals A c D cd T ct R cr i)] w fun e w' => e = .returned (.int .i64 (inCode i)) ∧ Below w.heap.size w w' := by
  have hck := fun w' (q : Below w.heap.size w w') => rcfg_any A c i.cfg w' (h.c.below q)
  have hct := fun (hR : RightSz i.cfg.sizes) w' (q : Below w.heap.size w w') => rcount_any A i.cfg.sizes i.cfg.sizes.length c w' (h.c.hr.below q) hR (by have := hR.1; omega) (Nat.le_refl _)
  have hdc := fun a b w' (q : Below w.heap.size w w') => rdcheck_any a b cd D i.data w' (h.d.below stays_ex q) h.dl
  have hnd := fun (hg : GoodCfg i.cfg) (hb : i.cfg.batch ≤ i.data.length ∧ (i.data.length : Int) ≤ 1048576) w' (q : Below w.heap.size w w') => rneed_any A c i.data.length i.cfg w' (h.c.below q) hg hb
  have fc := @in_c i; have f7 := @in_7 i; have f5 := @in_5 i; have f8 := @in_8 i; have f0 := @in_0 i
  have hgd := @cfg_good i.cfg
  have hsr := h.c.hr
  have hdl := h.dl; have htl := h.tl; have hrl := h.rl
  unfold DChkIs at hdc
  unfold batchB at f7 f5 f8 f0
  unfold shapeB fitB inN outN cnt at f5 f8 f0
  unfold drawsB at f8 f0
  obtain ⟨code, hcode⟩ : ∃ code, inCode i = code := ⟨_, rfl⟩
  rw [hcode] at fc f7 f5 f8 f0 ⊢
  clear hcode h
  obtain ⟨⟨sz, sh, ra, mo, wk, ba, mi, st, bu, ch, wi, ca⟩, data, start, draws⟩ := i
  dsimp only [inpVals, cfgVals] at *
  obtain ⟨L, hL⟩ : ∃ L, sz.length = L := ⟨_, rfl⟩
  obtain ⟨N, hN⟩ : ∃ N, data.length = N := ⟨_, rfl⟩
  obtain ⟨M, hM⟩ : ∃ M, start.length = M := ⟨_, rfl⟩
  obtain ⟨Q, hQ⟩ : ∃ Q, draws.length = Q := ⟨_, rfl⟩
  obtain ⟨cc, hcc⟩ : ∃ cc, cfgCode ⟨sz, sh, ra, mo, wk, ba, mi, st, bu, ch, wi, ca⟩ = cc := ⟨_, rfl⟩
  rw [hL] at hck hct hnd f5 f8 f0 ⊢
  rw [hN] at hdc hnd f7 f5 f8 f0 hdl ⊢
  rw [hM] at f5 f8 f0 htl ⊢
  rw [hQ] at f8 f0 hrl ⊢
  rw [hcc] at hck fc f7 f5 f8 f0 hgd
  obtain ⟨CN, hCN⟩ : ∃ CN, cntN sz (L - 1) = CN := ⟨_, rfl⟩
  rw [hCN] at hct f5 f8 f0
  obtain ⟨ND, hND⟩ : ∃ ND, needN N ba.toNat st.toNat = ND := ⟨_, rfl⟩
  rw [hND] at hnd f8 f0
  have Hck := Lib.hid hck; have Hct := Lib.hid hct; have Hdc := Lib.hid hdc; have Hnd := Lib.hid hnd; have Fc := Lib.hid fc; have F7 := Lib.hid f7; have F5 := Lib.hid f5; have F8 := Lib.hid f8; have F0 := Lib.hid f0; have Hgd := Lib.hid hgd; have Hsr := Lib.hid hsr; have HL := Lib.hid hL; have HCN := Lib.hid hCN
  clear hck hct hdc hnd fc f7 f5 f8 f0 hgd hsr hL hN hM hQ hcc hCN hND
  go_enter Tryz.func15, Tryz.ntmps15
  go_wp2_with fail
  have hz := (Below.heap_alloc (w.alloc (.cells #[.slice A L c, .int .i64 sh, .int .i64 ra, .int .i64 mo, .int .i64 wk, .int .i64 ba, .int .i64 mi, .int .i64 st, .int .i64 bu, .int .i64 ch, .int .i64 wi, .int .i64 ca, .slice D N cd, .slice T M ct, .slice R Q cr] 29)) (.cells #[.slice A L c, .int .i64 sh, .int .i64 ra, .int .i64 mo, .int .i64 wk, .int .i64 ba, .int .i64 mi, .int .i64 st, .int .i64 bu, .int .i64 ch, .int .i64 wi, .int .i64 ca] 24) w.heap.size (by simp)).trans (heap_alloc_new w _)
  have hy := heap_alloc_new (w.alloc (.cells #[.slice A L c, .int .i64 sh, .int .i64 ra, .int .i64 mo, .int .i64 wk, .int .i64 ba, .int .i64 mi, .int .i64 st, .int .i64 bu, .int .i64 ch, .int .i64 wi, .int .i64 ca, .slice D N cd, .slice T M ct, .slice R Q cr] 29)) (.cells #[.slice A L c, .int .i64 sh, .int .i64 ra, .int .i64 mo, .int .i64 wk, .int .i64 ba, .int .i64 mi, .int .i64 st, .int .i64 bu, .int .i64 ch, .int .i64 wi, .int .i64 ca] 24)
  rw [show (w.alloc (.cells #[.slice A L c, .int .i64 sh, .int .i64 ra, .int .i64 mo, .int .i64 wk, .int .i64 ba, .int .i64 mi, .int .i64 st, .int .i64 bu, .int .i64 ch, .int .i64 wi, .int .i64 ca, .slice D N cd, .slice T M ct, .slice R Q cr] 29)).heap.size = w.heap.size + 1 by simp] at hy
  have hB : Below w.heap.size w ((w.alloc (.cells #[.slice A L c, .int .i64 sh, .int .i64 ra, .int .i64 mo, .int .i64 wk, .int .i64 ba, .int .i64 mi, .int .i64 st, .int .i64 bu, .int .i64 ch, .int .i64 wi, .int .i64 ca, .slice D N cd, .slice T M ct, .slice R Q cr] 29)).alloc (.cells #[.slice A L c, .int .i64 sh, .int .i64 ra, .int .i64 mo, .int .i64 wk, .int .i64 ba, .int .i64 mi, .int .i64 st, .int .i64 bu, .int .i64 ch, .int .i64 wi, .int .i64 ca] 24)) := ((Below.refl _ w).alloc (Nat.le_refl _) _).alloc (by simp) _
  obtain ⟨W0, hW0⟩ : ∃ W0, W0 = (w.alloc (.cells #[.slice A L c, .int .i64 sh, .int .i64 ra, .int .i64 mo, .int .i64 wk, .int .i64 ba, .int .i64 mi, .int .i64 st, .int .i64 bu, .int .i64 ch, .int .i64 wi, .int .i64 ca, .slice D N cd, .slice T M ct, .slice R Q cr] 29)).alloc (.cells #[.slice A L c, .int .i64 sh, .int .i64 ra, .int .i64 mo, .int .i64 wk, .int .i64 ba, .int .i64 mi, .int .i64 st, .int .i64 bu, .int .i64 ch, .int .i64 wi, .int .i64 ca] 24) := ⟨_, rfl⟩
  rw [← hW0] at hz hy hB ⊢
  clear hW0
  refine (Hck.out _ hB).mono ?_
  rintro e w1 ⟨rfl, hb1⟩
  have hz1 := (hb1.block _ (lt_of_block hz)).trans hz
  have hy1 := (hb1.block _ (lt_of_block hy)).trans hy
  have HB := Lib.hid (hB.trans (hb1.mono hB.size))
  obtain ⟨⟨z0, z1, z2, z3, z4, z5, z6, z7, z8, z9, z10, z11, z12, z13, z14⟩, zf⟩ := bx15 hz1
  obtain ⟨⟨y0, y1, y2, y3, y4, y5, y6, y7, y8, y9, y10, y11⟩, yf⟩ := bx12 hy1
  have lz := lt_of_block hz1; have ly := lt_of_block hy1
  have HZ := Lib.hid hz1; have HY := Lib.hid hy1
  clear hz hy hB hb1 hz1 hy1
  by_cases h3 : cc ≠ 0
  · have hq : (cc != 0) = true := by rw [bne_iff_ne]; exact h3
    have H3 := Lib.hid h3; clear h3
    go_wp2_with fail
    go_ret
    exact ⟨ret_int (Fc.out H3.out).symm, HB.out⟩
  obtain rfl : cc = 0 := by omega
  clear h3
  have hg := Hgd.out.1 rfl
  have g1 := hg.w; have g2 := hg.ba; have g3 := hg.st; have gz := hg.z
  have HG := Lib.hid hg
  dsimp only at g1 g2 g3 gz
  clear hg
  have hl16 := gz.1.1
  rw [HL.out] at hl16
  have s0 := gz.1.at (k := 0) (by have := HL.out; omega)
  have s1 := gz.1.at (k := L - 1) (by have := HL.out; omega)
  obtain ⟨bz, oz, rfl, p0⟩ := Hsr.out.num (show 0 < sz.length by have := HL.out; omega)
  obtain ⟨_, _, e', p1⟩ := Hsr.out.num (show L - 1 < sz.length by have := HL.out; omega)
  injection e' with e'; injection e' with e1 e2 _; subst e1; subst e2
  rw [s0.2.2, Nat.add_zero] at p0
  rw [s1.2.2] at p1
  obtain ⟨n0, hn0⟩ : ∃ n0, szN sz 0 = n0 := ⟨_, rfl⟩
  obtain ⟨n1, hn1⟩ : ∃ n1, szN sz (L - 1) = n1 := ⟨_, rfl⟩
  have f5 := F5.out; have f8 := F8.out; have f0 := F0.out
  rw [hn0, hn1] at f5 f8 f0
  rw [hn0] at p0 s0
  rw [hn1] at p1 s1
  have F5 := Lib.hid f5; have F8 := Lib.hid f8; have F0 := Lib.hid f0; have HGZ := Lib.hid gz
  have hb5 : bz < w.heap.size := lt_of_cell p0
  have P0 := Lib.hid p0; have P1 := Lib.hid p1
  clear f5 f8 f0 gz hn0 hn1 p0 p1 s0 s1
  obtain ⟨bt, rfl⟩ : ∃ bt : Nat, ba = bt := ⟨ba.toNat, by omega⟩
  go_wp2_with fail
  refine (btw_any N bt 1048576 _).mono ?_
  rintro e w' ⟨rfl, rfl⟩
  obtain ⟨b1, hb1⟩ : ∃ b1, btB (N : Int) bt 1048576 = b1 := ⟨_, rfl⟩
  have G0 := Lib.hid (show decide ((bt : Int) ≤ N ∧ (N : Int) ≤ 1048576) = b1 from hb1)
  rw [hb1]
  clear hb1
  rcases bool_ft b1 with rfl | rfl
  · have hn7 := of_decide_eq_false G0.out
    go_wp2_with fail
    go_ret
    exact ⟨ret_int (F7.out trivial (by rw [decide_eq_false_iff_not]; omega)).symm, HB.out⟩
  have hn7 := of_decide_eq_true G0.out
  have G1 := Lib.hid (show decide ((bt : Int) ≤ N ∧ N ≤ 1048576) = true by rw [decide_eq_true_eq]; omega)
  have p0 := (HB.out.cell (p := ⟨bz, oz, none⟩) hb5).trans P0.out
  have p1 := (HB.out.cell (p := ⟨bz, oz + (L - 1), none⟩) hb5).trans P1.out
  have hw1 : IntKind.i64.wrap ((L : Int) - 1) = ((L - 1 : Nat) : Int) := by rw [IntWalk.i64_in _ (by omega)]; omega
  have hLi : ((L - 1 : Nat) : Int) < L := by omega
  have hLn : L - 1 < L := by omega
  have hL0 : 0 < L := by omega
  have hL0i : (0 : Int) < L := by omega
  go_wp2_with fail
  have hSw : (fun w' : World => w'.cell? ⟨w.heap.size, 12, none⟩ = some (.slice D N cd) ∧ w'.cell? ⟨w.heap.size + 1, 0, none⟩ = some (.slice (some ⟨bz, oz, none⟩) L c) ∧ w'.cell? ⟨bz, oz, none⟩ = some (.int .i64 n0) ∧ w'.cell? ⟨bz, oz + (L - 1), none⟩ = some (.int .i64 n1)) w1.drew := ⟨z12, y0, p0, p1⟩
  refine HA.g (fun w' : World => w'.cell? ⟨w.heap.size, 12, none⟩ = some (.slice D N cd) ∧ w'.cell? ⟨w.heap.size + 1, 0, none⟩ = some (.slice (some ⟨bz, oz, none⟩) L c) ∧ w'.cell? ⟨bz, oz, none⟩ = some (.int .i64 n0) ∧ w'.cell? ⟨bz, oz + (L - 1), none⟩ = some (.int .i64 n1)) ?_
  refine HA.t ?_ [0, 1, 2, 3, 4, 5, 6, 7, 8, 9, 10, 11, 12, 13] hSw ?_
  refine HA.o 14 (fun K hK => ?_)
  go_simp
  refine (Hdc.out n0 n1 _ HB.out.drew).mono ?_
  rintro e w3 ⟨hb3, d, hd⟩
  have hS3 := And.intro (cell_below hb3 hSw.1) (And.intro (cell_below hb3 hSw.2.1) (And.intro (cell_below hb3 hSw.2.2.1) (cell_below hb3 hSw.2.2.2)))
  have hb3' : Below w1.heap.size w1 w3 := (Below.refl w1.heap.size w1).drew.trans hb3
  have hz3 := (hb3'.block _ lz).trans HZ.out
  have hy3 := (hb3'.block _ ly).trans HY.out
  have HB3 := Lib.hid (HB.out.trans (hb3'.mono HB.out.size))
  have HZ3 := Lib.hid hz3; have HY3 := Lib.hid hy3
  obtain ⟨fit, rfl, hfit⟩ : ∃ fit, e = .returned (.tuple #[.int .i64 d, .bool fit]) ∧ decide (∀ x ∈ data, fitEx n0 n1 x) = fit := by
    rcases hd with ⟨ha, rfl⟩ | ⟨ha, rfl⟩
    · exact ⟨true, rfl, decide_eq_true ha⟩
    · exact ⟨false, rfl, decide_eq_false ha⟩
  have Hfit := Lib.hid hfit
  clear hb3 hb3' hz3 hy3 hd hfit hSw
  dsimp only
  refine hK.out _ _ hS3 (fun hSw => ?_)
  clear hK K hS3
  refine HA.t ?_ [15, 16, 17, 18, 19] hSw ?_
  refine HA.d ?_
  clear hSw z0 z1 z2 z3 z4 z5 z6 z7 z8 z9 z10 z11 z12 z13 z14 zf y0 y1 y2 y3 y4 y5 y6 y7 y8 y9 y10 y11 yf lz ly hw1 p0 p1
  have hz3 := HZ3.out; have hy3 := HY3.out
  obtain ⟨⟨z0, z1, z2, z3, z4, z5, z6, z7, z8, z9, z10, z11, z12, z13, z14⟩, zf⟩ := bx15 hz3
  obtain ⟨⟨y0, y1, y2, y3, y4, y5, y6, y7, y8, y9, y10, y11⟩, yf⟩ := bx12 hy3
  have lz := lt_of_block hz3; have ly := lt_of_block hy3
  clear hz3 hy3
  rcases bool_ft fit with rfl | rfl
  · go_wp2_with fail
    go_quiet (fail)
    go_wp2_with fail
    go_ret
    exact ⟨ret_int (F5.out trivial G1.out (by rw [Hfit.out]; rfl)).symm, below_drewN HB3.out _⟩
  have hcnt := fun w' (q : Below w3.heap.size w3 w') => Hct.out HGZ.out.1 w' (HB3.out.trans (q.mono HB3.out.size))
  have Hcnt := Lib.hid hcnt; clear hcnt
  by_cases h5 : M ≠ CN
  · have hq : ((M : Int) != (CN : Int)) = true := by rw [bne_iff_ne]; omega
    have H5 := Lib.hid h5; clear h5
    go_wp2_with fail
    go_quiet ((go_at_call 62; refine Calls.quiet_of (Hcnt.out _ ?_); (focus (repeat' (first | (with_reducible exact Below.refl _ _) | (with_reducible assumption) | (with_reducible refine Below.setCell ?_ ?_ _) | (with_reducible refine Below.alloc ?_ ?_ _) | (with_reducible refine below_drewN ?_ _) | (with_reducible refine Below.drew ?_) | (with_reducible exact Nat.le_refl _) | omega | (simp; done) | (simp; omega))))))
    go_wp2_with fail
    go_ret
    exact ⟨ret_int (F5.out trivial G1.out (by rw [Hfit.out, decide_eq_false H5.out]; rfl)).symm, below_drewN HB3.out _⟩
  have hq : ((M : Int) != (CN : Int)) = false := by rw [bne_eq_false_iff_eq]; omega
  have G2 := Lib.hid (show (decide (∀ x ∈ data, fitEx n0 n1 x) && decide (M = CN)) = true by rw [Hfit.out, decide_eq_true (show M = CN by omega)]; rfl)
  clear h5
  go_wp2_with fail
  go_quiet ((go_at_call 62; refine Calls.quiet_of (Hcnt.out _ ?_); (focus (repeat' (first | (with_reducible exact Below.refl _ _) | (with_reducible assumption) | (with_reducible refine Below.setCell ?_ ?_ _) | (with_reducible refine Below.alloc ?_ ?_ _) | (with_reducible refine below_drewN ?_ _) | (with_reducible refine Below.drew ?_) | (with_reducible exact Nat.le_refl _) | omega | (simp; done) | (simp; omega))))))
  go_wp2_with fail
  obtain ⟨V, hV⟩ : ∃ V, V = w3.drewN nq := ⟨_, rfl⟩
  have hBV : Below w.heap.size w V := by rw [hV]; exact below_drewN HB3.out _
  have hzV : V.heap[w.heap.size]? = some (.cells #[.slice (some ⟨bz, oz, none⟩) L c, .int .i64 sh, .int .i64 ra, .int .i64 mo, .int .i64 wk, .int .i64 bt, .int .i64 mi, .int .i64 st, .int .i64 bu, .int .i64 ch, .int .i64 wi, .int .i64 ca, .slice D N cd, .slice T M ct, .slice R Q cr] 29 (0, 0)) := by rw [hV]; exact HZ3.out
  have hyV : V.heap[w.heap.size + 1]? = some (.cells #[.slice (some ⟨bz, oz, none⟩) L c, .int .i64 sh, .int .i64 ra, .int .i64 mo, .int .i64 wk, .int .i64 bt, .int .i64 mi, .int .i64 st, .int .i64 bu, .int .i64 ch, .int .i64 wi, .int .i64 ca] 24 (0, 0)) := by rw [hV]; exact HY3.out
  clear z0 z1 z2 z3 z4 z5 z6 z7 z8 z9 z10 z11 z12 z13 z14 zf y0 y1 y2 y3 y4 y5 y6 y7 y8 y9 y10 y11 yf
  rw [← hV]
  clear hV
  obtain ⟨⟨z0, z1, z2, z3, z4, z5, z6, z7, z8, z9, z10, z11, z12, z13, z14⟩, zf⟩ := bx15 hzV
  obtain ⟨⟨y0, y1, y2, y3, y4, y5, y6, y7, y8, y9, y10, y11⟩, yf⟩ := bx12 hyV
  have HBV := Lib.hid hBV; clear hBV hzV hyV
  have hnd := Hnd.out HG.out (by omega) V.drew HBV.out.drew
  have Hnd2 := Lib.hid hnd; clear hnd
  have hSw : (fun w' : World => w'.cell? ⟨w.heap.size, 14, none⟩ = some (.slice R Q cr) ∧ w'.cell? ⟨w.heap.size, 12, none⟩ = some (.slice D N cd) ∧ w'.cell? ⟨w.heap.size + 1, 0, none⟩ = some (.slice (some ⟨bz, oz, none⟩) L c) ∧ w'.cell? ⟨w.heap.size + 1, 1, none⟩ = some (.int .i64 sh) ∧ w'.cell? ⟨w.heap.size + 1, 2, none⟩ = some (.int .i64 ra) ∧ w'.cell? ⟨w.heap.size + 1, 3, none⟩ = some (.int .i64 mo) ∧ w'.cell? ⟨w.heap.size + 1, 4, none⟩ = some (.int .i64 wk) ∧ w'.cell? ⟨w.heap.size + 1, 5, none⟩ = some (.int .i64 bt) ∧ w'.cell? ⟨w.heap.size + 1, 6, none⟩ = some (.int .i64 mi) ∧ w'.cell? ⟨w.heap.size + 1, 7, none⟩ = some (.int .i64 st) ∧ w'.cell? ⟨w.heap.size + 1, 8, none⟩ = some (.int .i64 bu) ∧ w'.cell? ⟨w.heap.size + 1, 9, none⟩ = some (.int .i64 ch) ∧ w'.cell? ⟨w.heap.size + 1, 10, none⟩ = some (.int .i64 wi) ∧ w'.cell? ⟨w.heap.size + 1, 11, none⟩ = some (.int .i64 ca)) V.drew := ⟨z14, z12, y0, y1, y2, y3, y4, y5, y6, y7, y8, y9, y10, y11⟩
  refine HA.g (fun w' : World => w'.cell? ⟨w.heap.size, 14, none⟩ = some (.slice R Q cr) ∧ w'.cell? ⟨w.heap.size, 12, none⟩ = some (.slice D N cd) ∧ w'.cell? ⟨w.heap.size + 1, 0, none⟩ = some (.slice (some ⟨bz, oz, none⟩) L c) ∧ w'.cell? ⟨w.heap.size + 1, 1, none⟩ = some (.int .i64 sh) ∧ w'.cell? ⟨w.heap.size + 1, 2, none⟩ = some (.int .i64 ra) ∧ w'.cell? ⟨w.heap.size + 1, 3, none⟩ = some (.int .i64 mo) ∧ w'.cell? ⟨w.heap.size + 1, 4, none⟩ = some (.int .i64 wk) ∧ w'.cell? ⟨w.heap.size + 1, 5, none⟩ = some (.int .i64 bt) ∧ w'.cell? ⟨w.heap.size + 1, 6, none⟩ = some (.int .i64 mi) ∧ w'.cell? ⟨w.heap.size + 1, 7, none⟩ = some (.int .i64 st) ∧ w'.cell? ⟨w.heap.size + 1, 8, none⟩ = some (.int .i64 bu) ∧ w'.cell? ⟨w.heap.size + 1, 9, none⟩ = some (.int .i64 ch) ∧ w'.cell? ⟨w.heap.size + 1, 10, none⟩ = some (.int .i64 wi) ∧ w'.cell? ⟨w.heap.size + 1, 11, none⟩ = some (.int .i64 ca)) ?_
  refine HA.t ?_ [0, 1, 2, 3, 4, 5, 6] hSw ?_
  refine HA.o 7 (fun K hK => ?_)
  go_simp
  refine Hnd2.out.mono ?_
  rintro e w4 ⟨rfl, hb4⟩
  have HB4 := Lib.hid (HBV.out.trans ((Below.refl V.heap.size V).drew.trans hb4 |>.mono HBV.out.size))
  have hS4 := And.intro (cell_below hb4 hSw.1) (And.intro (cell_below hb4 hSw.2.1) (And.intro (cell_below hb4 hSw.2.2.1) (And.intro (cell_below hb4 hSw.2.2.2.1) (And.intro (cell_below hb4 hSw.2.2.2.2.1) (And.intro (cell_below hb4 hSw.2.2.2.2.2.1) (And.intro (cell_below hb4 hSw.2.2.2.2.2.2.1) (And.intro (cell_below hb4 hSw.2.2.2.2.2.2.2.1) (And.intro (cell_below hb4 hSw.2.2.2.2.2.2.2.2.1) (And.intro (cell_below hb4 hSw.2.2.2.2.2.2.2.2.2.1) (And.intro (cell_below hb4 hSw.2.2.2.2.2.2.2.2.2.2.1) (And.intro (cell_below hb4 hSw.2.2.2.2.2.2.2.2.2.2.2.1) (And.intro (cell_below hb4 hSw.2.2.2.2.2.2.2.2.2.2.2.2.1) (cell_below hb4 hSw.2.2.2.2.2.2.2.2.2.2.2.2.2)))))))))))))
  clear hb4 hSw
  dsimp only
  refine hK.out _ _ hS4 (fun hSw => ?_)
  clear hK K hS4
  refine HA.t ?_ [8] hSw ?_
  refine HA.d ?_
  clear hSw z0 z1 z2 z3 z4 z5 z6 z7 z8 z9 z10 z11 z12 z13 z14 zf y0 y1 y2 y3 y4 y5 y6 y7 y8 y9 y10 y11 yf
  by_cases h8 : ND ≤ Q
  · have hq9 : ¬ ((Q : Int) < ND) := by omega
    have hqd : decide ((Q : Int) < ND) = false := by simp; omega
    have hqe : decide (Q < ND) = false := by simp; omega
    have G8 := Lib.hid (decide_eq_true h8)
    go_wp2_with fail
    go_ret
    exact ⟨ret_int (F0.out trivial G1.out G2.out G8.out).symm, HB4.out⟩
  · have hq9 : (Q : Int) < ND := by omega
    have hqd : decide ((Q : Int) < ND) = true := by simp; omega
    have hqe : decide (Q < ND) = true := by simp; omega
    have G8 := Lib.hid (decide_eq_false h8)
    go_wp2_with fail
    go_ret
    exact ⟨ret_int (F8.out trivial G1.out G2.out G8.out).symm, HB4.out⟩
end Go.Proofs.YtaccfnffmbndhaaGreat
namespace Go.Proofs.YtaccfnffmbndhaaGreat
open Go.RowKit
structure InpRaw (w : World) (A : Option Addr) (c : Nat) (D : Option Addr) (T : Option Addr) (ct : Nat) (R : Option Addr) (i : Inp) : Prop where
  c : CfgRd w A c i.cfg
  d : SlRd rEx 2 w D i.data
  dl : i.data.length ≤ 17592186043904
  t : NumsRd w T i.start ct
  r : Rd w R (nums .u64 i.draws)
  rl : i.draws.length ≤ 17592186043904
  ru : U64 i.draws
  ra : -9223372036854775808 ≤ i.cfg.rate ∧ i.cfg.rate ≤ 9223372036854775807
  rm : -9223372036854775808 ≤ i.cfg.mom ∧ i.cfg.mom ≤ 9223372036854775807
theorem InpRaw.below {w w' : World} {A : Option Addr} {c : Nat} {D T R : Option Addr} {ct : Nat} {i : Inp} (h : InpRaw w A c D T ct R i) (hb : Below w.heap.size w w') : InpRaw w' A c D T ct R i :=
  ⟨h.c.below hb, h.d.below stays_ex hb, h.dl, h.t.below hb, h.r.below hb, h.rl, h.ru, h.ra, h.rm⟩
def SmallI (i : Inp) : Prop := i.data.length ≤ 60 ∧ i.start.length ≤ 600 ∧ i.draws.length ≤ 2000 ∧ i.cfg.sizes.length ≤ 40
theorem InpRaw.rd {w : World} {A : Option Addr} {c : Nat} {D T R : Option Addr} {ct : Nat} {i : Inp} (h : InpRaw w A c D T ct R i) (hs : SmallI i) : InpRd w A c D T ct R i :=
  ⟨h.c, h.d, by have := hs.1; omega, h.t, by have := hs.2.1; omega, h.r, by have := hs.2.2.1; omega, h.ru, h.ra, h.rm⟩
def FewI (q : Prop) (w : World) (e : Ending) (w' : World) : Prop := (∃ b : Bool, e = .returned (.bool b) ∧ (b = true → q)) ∧ Below w.heap.size w w'
theorem fewI_any {q : Prop} {w w' : World} (b : Bool) (hq : q) (hb : Below w.heap.size w w') : FewI q w (.returned (.bool b)) w' := ⟨⟨b, rfl, fun _ => hq⟩, hb⟩
theorem fewI_no {q : Prop} {w w' : World} (hb : Below w.heap.size w w') : FewI q w (.returned (.bool false)) w' := ⟨⟨false, rfl, fun h => by cases h⟩, hb⟩
theorem fewI_dec {p : Prop} [Decidable p] {q : Prop} {w w' : World} (hq : p → q) (hb : Below w.heap.size w w') : FewI q w (.returned (.bool (decide p))) w' := ⟨⟨_, rfl, fun h => hq (of_decide_eq_true h)⟩, hb⟩
set_option maxRecDepth 100000 in
set_option maxHeartbeats 4000000 in
theorem ifew_any (A : Option Addr) (c : Nat) (D : Option Addr) (cd : Nat) (T : Option Addr) (ct : Nat) (R : Option Addr) (cr : Nat) (i : Inp) (w : World) (h : InpRaw w A c D T ct R i) :
    Calls Tryz.prog 86 #[.agg (inpVals A c D cd T ct R cr i)] w (FewI (SmallI i) w) := by
  have hf := fun w' (q : Below w.heap.size w w') => rfew_any cd D i.data w' (h.d.below stays_ex q) h.dl
  have hq : i.data.length ≤ 60 → i.start.length ≤ 600 → i.draws.length ≤ 2000 → i.cfg.sizes.length ≤ 40 → SmallI i := fun a b c d => ⟨a, b, c, d⟩
  generalize SmallI i = Q at hq ⊢
  clear h
  unfold FewB at hf
  obtain ⟨⟨sz, sh, ra, mo, wk, ba, mi, st, bu, ch, wi, ca⟩, data, start, draws⟩ := i
  dsimp only [inpVals, cfgVals] at *
  obtain ⟨L, hL⟩ : ∃ L, sz.length = L := ⟨_, rfl⟩
  obtain ⟨N, hN⟩ : ∃ N, data.length = N := ⟨_, rfl⟩
  obtain ⟨M, hM⟩ : ∃ M, start.length = M := ⟨_, rfl⟩
  obtain ⟨P, hP⟩ : ∃ P, draws.length = P := ⟨_, rfl⟩
  rw [hL, hN, hM, hP] at hq
  rw [hN] at hf
  rw [hL, hN, hM, hP]
  have Hf := Lib.hid hf; have Hq := Lib.hid hq
  clear hf hq hL hN hM hP
  have nol : ¬ (L ≤ 40) → ¬ ((L : Int) ≤ 40) := by omega
  have yol : L ≤ 40 → (L : Int) ≤ 40 := by omega
  have nom : ¬ (M ≤ 600) → ¬ ((M : Int) ≤ 600) := by omega
  have yom : M ≤ 600 → (M : Int) ≤ 600 := by omega
  have nop : ¬ (P ≤ 2000) → ¬ ((P : Int) ≤ 2000) := by omega
  have yop : P ≤ 2000 → (P : Int) ≤ 2000 := by omega
  have NL := Lib.hid nol; have YL := Lib.hid yol; have NM := Lib.hid nom; have YM := Lib.hid yom; have NP := Lib.hid nop; have YP := Lib.hid yop
  clear nol yol nom yom nop yop
  by_cases h1 : ¬ (L ≤ 40)
  · have k1 := NL.out h1
    go_enter Tryz.func86, Tryz.ntmps86
    go_wp2_with fail
    all_goals
      go_ret
      exact fewI_no ((Below.refl _ w).alloc (Nat.le_refl _) _)
  have h1' : L ≤ 40 := by omega
  have k1 := YL.out h1'
  have G1 := Lib.hid h1'
  clear h1 h1'
  go_enter Tryz.func86, Tryz.ntmps86
  go_wp2_with fail
  have hz := heap_alloc_new w (.cells #[.slice A L c, .int .i64 sh, .int .i64 ra, .int .i64 mo, .int .i64 wk, .int .i64 ba, .int .i64 mi, .int .i64 st, .int .i64 bu, .int .i64 ch, .int .i64 wi, .int .i64 ca, .slice D N cd, .slice T M ct, .slice R P cr] 29)
  have hB := (Below.refl _ w).alloc (Nat.le_refl _) (.cells #[.slice A L c, .int .i64 sh, .int .i64 ra, .int .i64 mo, .int .i64 wk, .int .i64 ba, .int .i64 mi, .int .i64 st, .int .i64 bu, .int .i64 ch, .int .i64 wi, .int .i64 ca, .slice D N cd, .slice T M ct, .slice R P cr] 29)
  refine (Hf.out _ hB).mono ?_
  rintro e w' ⟨⟨b, rfl, hb⟩, d, rfl⟩
  have hz1 : ((w.alloc (.cells #[.slice A L c, .int .i64 sh, .int .i64 ra, .int .i64 mo, .int .i64 wk, .int .i64 ba, .int .i64 mi, .int .i64 st, .int .i64 bu, .int .i64 ch, .int .i64 wi, .int .i64 ca, .slice D N cd, .slice T M ct, .slice R P cr] 29)).drewN d).heap[w.heap.size]? = some (.cells #[.slice A L c, .int .i64 sh, .int .i64 ra, .int .i64 mo, .int .i64 wk, .int .i64 ba, .int .i64 mi, .int .i64 st, .int .i64 bu, .int .i64 ch, .int .i64 wi, .int .i64 ca, .slice D N cd, .slice T M ct, .slice R P cr] 29 (0, 0)) := hz
  have hB1 := below_drewN hB d
  have Hb := Lib.hid hb
  clear hz hB hb
  generalize (w.alloc (.cells #[.slice A L c, .int .i64 sh, .int .i64 ra, .int .i64 mo, .int .i64 wk, .int .i64 ba, .int .i64 mi, .int .i64 st, .int .i64 bu, .int .i64 ch, .int .i64 wi, .int .i64 ca, .slice D N cd, .slice T M ct, .slice R P cr] 29)).drewN d = W1 at hz1 hB1 ⊢
  have HB := Lib.hid hB1
  obtain ⟨⟨z0, z1, z2, z3, z4, z5, z6, z7, z8, z9, z10, z11, z12, z13, z14⟩, zf⟩ := bx15 hz1
  clear hz1 hB1
  rcases bool_ft b with rfl | rfl
  · go_wp2_with fail
    all_goals
      go_ret
      exact fewI_no HB.out
  by_cases h2 : ¬ (M ≤ 600)
  · have k2 := NM.out h2
    go_wp2_with fail
    all_goals
      go_ret
      exact fewI_no HB.out
  have h2' : M ≤ 600 := by omega
  have k2 := YM.out h2'
  have G2 := Lib.hid h2'
  clear h2 h2'
  clear NL YL NM YM YP
  go_wp2_with fail
  all_goals
    go_ret
    exact fewI_dec (fun h => Hq.out (Hb.out trivial) G2.out (by omega) G1.out) HB.out
end Go.Proofs.YtaccfnffmbndhaaGreat
