/- The reference's Clone of the data: copies in rows of the call's own. Rows of a call's own, whatever they hold. An input that came in. No condition. -/
import Derived.Test.YtaccfnffmbndhaaGreatK04
import Derived.Test.YtaccfnffmbndhaaGreatK12
import Derived.Test.YtaccfnffmbndhaaGreatK31
import Derived.Test.YtaccfnffmbndhaaGreatK03
import Derived.Deep.RegionHeld3
import Derived.Test.YtaccfnffmbndhaaGreatK01
import Derived.WalkSpells
import Derived.Test.YtaccfnffmbndhaaGreatK11
import Derived.Test.YtaccfnffmbndhaaGreatK22
set_option linter.unusedSimpArgs false
set_option linter.unusedVariables false
namespace Go.Proofs.YtaccfnffmbndhaaGreat
open Go.RowKit
set_option maxRecDepth 100000 in
set_option maxHeartbeats 1000000 in
theorem rclonex_any (A : Option Addr) (l : List Ex) (c : Nat) (w : World) (h : SlRd rEx 2 w A l) (hl : l.length ≤ 1048576) :
    Calls Tryz.prog 10 #[.slice A l.length c] w fun e w' => ∃ v, e = .returned v ∧ MapI w w' l l.length v := by
  obtain ⟨n, hn⟩ : ∃ n, l.length = n := ⟨_, rfl⟩
  rw [hn] at hl ⊢
  have H := Lib.hid h; have Hn := Lib.hid hn; clear h hn
  go_enter Tryz.func10, Tryz.ntmps10
  go_wp2_with fail
  go_loopw [3, 4] (fun v i wr => ∃ k : Nat, k ≤ n ∧ i = .int .i64 k ∧ MapI w wr l k v) (fun _ i _ => n - (intOf i).toNat)
  case atStart => exact ⟨0, Nat.zero_le _, rfl, MapI.zero w l⟩
  case round =>
    obtain ⟨k, hk, rfl, hM⟩ := hrel
    obtain ⟨Al, cl, rfl⟩ := hM.form
    by_cases hlt : k < n
    · obtain ⟨x, hx⟩ : ∃ x, l[k]? = some x := ⟨_, List.getElem?_eq_getElem (by rw [Hn.out]; exact hlt)⟩
      have hlti : (k : Int) < n := by omega
      have hb := hM.b
      obtain ⟨b, o, A1, c1, A2, c2, rfl, hbl, p1, p2, r1, r2⟩ := ex_cells (H.out.below stays_ex hb) hx
      have hbw : b < w.heap.size := by
        obtain ⟨b', o', _, _, _, _, e9, h9, _⟩ := ex_cells H.out hx
        injection e9 with e9; injection e9 with e9 _ _; rw [e9]; exact h9
      have hx1 := r1.hl; have hx2 := r2.hl
      have hc1 := fun w' (q : Below wr.heap.size wr w') => rclone_any A1 x.1 c1 w' (r1.hr.below q) hx1
      have hc2 := fun w' (q : Below wr.heap.size wr w') => rclone_any A2 x.2 c2 w' (r2.hr.below q) hx2
      have hbs := hb.size
      obtain ⟨n1, hn1⟩ : ∃ n1, x.1.length = n1 := ⟨_, rfl⟩
      obtain ⟨n2, hn2⟩ : ∃ n2, x.2.length = n2 := ⟨_, rfl⟩
      rw [hn1] at p1 hc1; rw [hn2] at p2 hc2
      have Hc1 := Lib.hid hc1; have Hc2 := Lib.hid hc2; have HM := Lib.hid hM; have Hx := Lib.hid hx; have R1 := Lib.hid r1; have R2 := Lib.hid r2; have N1 := Lib.hid hn1; have N2 := Lib.hid hn2
      clear hc1 hc2 hM hx r1 r2 hn1 hn2 hb hx1 hx2
      go_wp2_with fail
      have hSw : (fun w' : World => w'.cell? ⟨b, o + k * 2, none⟩ = some (.slice A1 n1 c1) ∧ w'.cell? ⟨b, o + k * 2 + 1, none⟩ = some (.slice A2 n2 c2)) wr.drew := ⟨p1, p2⟩
      refine HA.g (fun w' : World => w'.cell? ⟨b, o + k * 2, none⟩ = some (.slice A1 n1 c1) ∧ w'.cell? ⟨b, o + k * 2 + 1, none⟩ = some (.slice A2 n2 c2)) ?_
      refine HA.t ?_ [0, 1, 2, 3, 4, 5, 7, 8, 9, 10, 11] hSw ?_
      refine HA.o 6 (fun K hK => ?_)
      go_simp
      refine (Hc1.out _ ((Below.refl _ _).drew)).mono ?_
      rintro e w1 ⟨B1, d1, rfl, ho1, hb1⟩
      have hS1 := And.intro (cell_below hb1 hSw.1) (cell_below hb1 hSw.2)
      have hb1' : Below wr.heap.size wr w1 := (Below.refl _ wr).drew.trans hb1
      have ho1 := own_base (base' := w.heap.size) ho1 hbs
      have HO1 := Lib.hid ho1; have HB1 := Lib.hid hb1'
      clear ho1 hb1 hb1' hSw
      dsimp only
      refine hK.out _ _ hS1 (fun hSw => ?_)
      clear hK K hS1
      refine HA.o 12 (fun K hK => ?_)
      go_simp
      refine (Hc2.out _ HB1.out).mono ?_
      rintro e w3 ⟨B2, d2, rfl, ho2, hb2⟩
      have hS3 := And.intro (cell_below hb2 hSw.1) (cell_below hb2 hSw.2)
      have hb3' : Below wr.heap.size wr w3 := HB1.out.trans (hb2.mono HB1.out.size)
      have ho13 := own_below HO1.out hb2
      have ho23 := own_base (base' := w.heap.size) ho2 (Nat.le_trans hbs HB1.out.size)
      have hx3 : ExOwn w3 w.heap.size [.slice B1 n1 d1, .slice B2 n2 d2] x := ⟨_, _, rfl, by rw [N1.out]; exact ho13, by rw [N2.out]; exact ho23, R1.out.hl, R2.out.hl, R1.out.hw, R2.out.hw⟩
      have HX3 := Lib.hid hx3; have HB3 := Lib.hid hb3'; have HM3 := Lib.hid (HM.out.below hb3')
      have hz3 := Nat.le_trans hbs hb3'.size
      clear ho1 ho2 hb2 hb3' ho13 ho23 hx3 hSw
      dsimp only
      refine hK.out _ _ hS3 (fun hSw => ?_)
      clear hK K hS3
      refine HA.t ?_ [13] hSw ?_
      refine HA.o 14 (fun K hK => ?_)
      go_simp
      refine hK.out _ _ ⟨cell_alloc hSw.1 _, cell_alloc hSw.2 _⟩ (fun hSw => ?_)
      clear hK K
      refine HA.o 15 (fun K hK => ?_)
      obtain ⟨rows, h1, h2, h3, h4, h5⟩ := HM3.out
      have Q1 := Lib.hid h1; have Q2 := Lib.hid h2; have Q3 := Lib.hid h3; have Q4 := Lib.hid h4; have Q5 := Lib.hid h5; clear h1 h2 h3 h4 h5
      refine step_appX et_exs (.tmp 11) (.tmp 25) rfl rfl w.heap.size (.slice Al k cl) k (List.flatten rows) rfl (Q1.out.alloc _) (some ⟨w3.heap.size, 0, none⟩) 1 1 [.slice B1 n1 d1, .slice B2 n2 d2] rfl (rd_newN w3 _ _ _ rfl) rfl (by simp [Value.oneCell']) (by omega) (by unfold maxLen; omega) (by simp; omega) ?_
      intro A6 c6 w6 ho6 hb6 hg6 _
      have hS6 := And.intro ((hb6.cell (p := ⟨b, o + k * 2, none⟩) hbw).trans hSw.1) ((hb6.cell (p := ⟨b, o + k * 2 + 1, none⟩) hbw).trans hSw.2)
      have hM6 := MapI.push (Q1.out.alloc _) Q2.out Q3.out (fun j y hj hy => (Q4.out j y hj hy).below ((Below.refl _ _).alloc (Nat.le_refl _) _)) (Q5.out.alloc hz3 _) Hx.out (HX3.out.below ((Below.refl _ _).alloc (Nat.le_refl _) _)) ho6 hb6 hg6
      have HM6 := Lib.hid hM6
      clear ho6 hb6 hg6 hM6 hSw
      dsimp only
      refine hK.out _ _ hS6 (fun hSw => ?_)
      clear hK K hS6
      refine HA.t ?_ [16] hSw ?_
      refine HA.d ?_
      clear hSw p1 p2
      go_wp2_with fail
      go_roundw
      case rel => exact ⟨k + 1, hlt, by go_num, HM6.out⟩
      case measure => simp [intOf]; omega
    · obtain rfl : n = k := by omega
      have HM := Lib.hid hM; clear hM
      go_wp2_with fail
      go_ret
      exact ⟨_, rfl, HM.out⟩
end Go.Proofs.YtaccfnffmbndhaaGreat
namespace Go.Proofs.YtaccfnffmbndhaaGreat
open Go.RowKit
def ARow (e : TypeId) (sz : Nat) (w : World) (base : Nat) (v : Value) (n : Nat) : Prop := ∃ xs, w.ownsRow base e sz v n xs
theorem ARow.put {e : TypeId} {sz : Nat} {w : World} {base n g c : Nat} (h : ARow e sz w base (.slice (some ⟨g, 0, none⟩) n c) n) (k : Nat) (v : Value) : ARow e sz (w.setCell ⟨g, k, none⟩ v) base (.slice (some ⟨g, 0, none⟩) n c) n := by
  obtain ⟨xs, h⟩ := h
  exact ⟨_, (h.stored k v).1⟩
theorem ARow.cell {e : TypeId} {sz : Nat} {w : World} {base n g c : Nat} (h : ARow e sz w base (.slice (some ⟨g, 0, none⟩) n c) n) {k : Nat} (hk : k < n * sz) : ∃ x : Value, w.cell? ⟨g, k, none⟩ = some x ∧ w.frozen? ⟨g, k, none⟩ = false := by
  obtain ⟨xs, h⟩ := h
  have f := h.frozenAt k
  have hl := h.1
  exact ⟨xs[k]'(by omega), by rw [h.cellAt k (by omega)]; simp, f⟩
theorem ARow.form {e : TypeId} {sz : Nat} {w : World} {base n c : Nat} {A : Option Addr} (h : ARow e sz w base (.slice A n c) n) (hn : 0 < n) : ∃ g, A = some ⟨g, 0, none⟩ := by
  obtain ⟨xs, h⟩ := h
  obtain ⟨g, c', hv, _⟩ := h.form hn
  simp only [Value.slice.injEq] at hv
  exact ⟨g, hv.1⟩
theorem ARow.lt {e : TypeId} {sz : Nat} {w : World} {base n : Nat} {v : Value} (h : ARow e sz w base v n) : ∀ i, v.ownBlock = some i → base ≤ i ∧ i < w.heap.size := by
  obtain ⟨xs, h⟩ := h
  exact h.lt
theorem ARow.keep {e : TypeId} {sz : Nat} {w w' : World} {base n : Nat} {v : Value} (h : ARow e sz w base v n) {S : Nat → Prop} (k : Keep S w w') (hS : ∀ i, v.ownBlock = some i → ¬ S i) : ARow e sz w' base v n := by
  obtain ⟨xs, h⟩ := h
  exact ⟨xs, k.own h hS⟩
theorem ARow.below {e : TypeId} {sz : Nat} {w w' : World} {base n : Nat} {v : Value} (h : ARow e sz w base v n) (hb : Below w.heap.size w w') : ARow e sz w' base v n := by
  obtain ⟨xs, h⟩ := h
  exact ⟨xs, own_below h hb⟩
def KRow (q : IntKind) (e : TypeId) (w : World) (base : Nat) (v : Value) (n : Nat) : Prop := ∃ xs : List Int, w.ownsRow base e 1 v n (nums q xs)
theorem KRow.any {q : IntKind} {e : TypeId} {w : World} {base n : Nat} {v : Value} (h : KRow q e w base v n) : ARow e 1 w base v n := by
  obtain ⟨xs, h⟩ := h; exact ⟨_, h⟩
theorem KRow.put {q : IntKind} {e : TypeId} {w : World} {base n g c : Nat} (h : KRow q e w base (.slice (some ⟨g, 0, none⟩) n c) n) (k : Nat) (v : Int) : KRow q e (w.setCell ⟨g, k, none⟩ (.int q v)) base (.slice (some ⟨g, 0, none⟩) n c) n := by
  obtain ⟨xs, h⟩ := h
  have := (h.stored k (.int q v)).1
  rw [nums_set] at this
  exact ⟨_, this⟩
theorem KRow.cell {q : IntKind} {e : TypeId} {w : World} {base n g c : Nat} (h : KRow q e w base (.slice (some ⟨g, 0, none⟩) n c) n) {k : Nat} (hk : k < n) : ∃ x : Int, w.cell? ⟨g, k, none⟩ = some (.int q x) ∧ w.frozen? ⟨g, k, none⟩ = false := by
  obtain ⟨xs, h⟩ := h
  have f := h.frozenAt k
  have hl := h.1
  rw [nums_length, Nat.mul_one] at hl
  exact ⟨nth xs k, by rw [h.cellAt k (by omega)]; exact nums_get q xs k (by omega), f⟩
theorem KRow.keep {q : IntKind} {e : TypeId} {w w' : World} {base n : Nat} {v : Value} (h : KRow q e w base v n) {S : Nat → Prop} (k : Keep S w w') (hS : ∀ i, v.ownBlock = some i → ¬ S i) : KRow q e w' base v n := by
  obtain ⟨xs, h⟩ := h
  exact ⟨xs, k.own h hS⟩
theorem KRow.below {q : IntKind} {e : TypeId} {w w' : World} {base n : Nat} {v : Value} (h : KRow q e w base v n) (hb : Below w.heap.size w w') : KRow q e w' base v n := by
  obtain ⟨xs, h⟩ := h
  exact ⟨xs, own_below h hb⟩
end Go.Proofs.YtaccfnffmbndhaaGreat
namespace Go.Proofs.YtaccfnffmbndhaaGreat
open Go.RowKit Go.ChangeShapes Go.WideShapes Go.ChangeAt
theorem opens_l : Opens Tryz.prog 2 1 (rInt .i64) := opens_int Tryz.underlying2 (by kernel_rfl)
theorem opens_u64s : Opens Tryz.prog 27 1 (rNums .u64) := opens_nums Tryz.underlying27 Tryz.underlying231 (by kernel_rfl) (by kernel_rfl) (by kernel_rfl)
theorem wf_U64 {l : List Int} (h : ∀ z ∈ l, (Lit.int .u64 z).wf = true) : U64 l := fun k hk => by
  have := h _ (nth_mem hk)
  simpa [Lit.wf, IntKind.min, IntKind.max, IntKind.signed, IntKind.bits] using this
theorem wf_one {z : Int} (h : (Lit.int .i64 z).wf = true) : -9223372036854775808 ≤ z ∧ z ≤ 9223372036854775807 := by
  simpa [Lit.wf, IntKind.min, IntKind.max, IntKind.signed, IntKind.bits] using h
theorem cells_exO : Tryz.prog.cellsOf 107 = 2 := by kernel_rfl
theorem cells_cfgO : Tryz.prog.cellsOf 24 = 12 := by kernel_rfl
theorem cells_inpO : Tryz.prog.cellsOf 29 = 15 := by kernel_rfl
theorem rNums_rd {w : World} {A : Option Addr} {zs : List Int} {c : Nat} (h2 : zs.length ≤ c) (h6 : zs.length ≤ 17592186043904) (h4 : Rd w A (nums .i64 zs)) (h5 : ∀ z ∈ zs, (Lit.int .i64 z).wf = true) : NumsRd w A zs c := ⟨h2, h6, h4, wf_W64 h5⟩
set_option maxRecDepth 100000 in
theorem opens_ex : Opens Tryz.prog 107 2 rEx := ⟨cells_exO, fun {H enc W fuel cs x} h hlt => by
  obtain ⟨xs, n, _, hx, hl, hlen, hf⟩ := DataW.trod_struct Tryz.underlying107 h
  rw [cells_exO] at hl
  have hlen' : xs.length = 2 := hlen
  obtain ⟨x1, A, c, a1, a2, a3, a4, a5, a6⟩ := field_opens opens_i64s Tryz.underlying107 hx hlt (hf 0 _ rfl) (by omega) rfl
  obtain ⟨y1, B, d, b1, b2, b3, b4, b5, b6⟩ := field_opens opens_i64s Tryz.underlying107 hx hlt (hf 1 _ rfl) (by omega) rfl
  clear h hf hlen hlen' hx hlt
  match cs, hl with
  | [c0, c1], _ =>
    simp at a1 b1
    exact ⟨rfl, ⟨x1, y1⟩, A, c, B, d, by simp [a1, b1], rNums_rd a2 a4 a5 a6, rNums_rd b2 b4 b5 b6⟩⟩
theorem opens_exs : Opens Tryz.prog 25 1 (rSl rEx 2) := opens_slice Tryz.underlying25 opens_ex (by kernel_rfl) (of_decide_eq_true (by kernel_rfl))
def rCfg : Reader Cfg := fun w cs k => ∃ A c, cs = (cfgVals A c k).toList ∧ CfgRd w A c k ∧ (-9223372036854775808 ≤ k.rate ∧ k.rate ≤ 9223372036854775807) ∧ (-9223372036854775808 ≤ k.mom ∧ k.mom ≤ 9223372036854775807) ∧ W64 k.sizes ∧ W64 [k.shift, k.workers, k.batch, k.micros, k.steps, k.bucket, k.chunk, k.window, k.cap]
set_option maxRecDepth 100000 in
set_option maxHeartbeats 1000000 in
theorem opens_cfg : Opens Tryz.prog 24 12 rCfg := ⟨cells_cfgO, fun {H enc W fuel cs x} h hlt => by
  obtain ⟨xs, n, _, hx, hl, hlen, hf⟩ := DataW.trod_struct Tryz.underlying24 h
  rw [cells_cfgO] at hl
  have hlen' : xs.length = 12 := hlen
  obtain ⟨sz, A, c, a1, a2, a3, a4, a5, a6⟩ := field_opens opens_ints Tryz.underlying24 hx hlt (hf 0 _ rfl) (by omega) rfl
  obtain ⟨z1, h1, g1⟩ := field_opens opens_i Tryz.underlying24 hx hlt (hf 1 _ rfl) (by omega) rfl
  obtain ⟨z2, h2, g2⟩ := field_opens opens_l Tryz.underlying24 hx hlt (hf 2 _ rfl) (by omega) rfl
  obtain ⟨z3, h3, g3⟩ := field_opens opens_l Tryz.underlying24 hx hlt (hf 3 _ rfl) (by omega) rfl
  obtain ⟨z4, h4, g4⟩ := field_opens opens_i Tryz.underlying24 hx hlt (hf 4 _ rfl) (by omega) rfl
  obtain ⟨z5, h5, g5⟩ := field_opens opens_i Tryz.underlying24 hx hlt (hf 5 _ rfl) (by omega) rfl
  obtain ⟨z6, h6, g6⟩ := field_opens opens_i Tryz.underlying24 hx hlt (hf 6 _ rfl) (by omega) rfl
  obtain ⟨z7, h7, g7⟩ := field_opens opens_i Tryz.underlying24 hx hlt (hf 7 _ rfl) (by omega) rfl
  obtain ⟨z8, h8, g8⟩ := field_opens opens_i Tryz.underlying24 hx hlt (hf 8 _ rfl) (by omega) rfl
  obtain ⟨z9, h9, g9⟩ := field_opens opens_i Tryz.underlying24 hx hlt (hf 9 _ rfl) (by omega) rfl
  obtain ⟨z10, h10, g10⟩ := field_opens opens_i Tryz.underlying24 hx hlt (hf 10 _ rfl) (by omega) rfl
  obtain ⟨z11, h11, g11⟩ := field_opens opens_i Tryz.underlying24 hx hlt (hf 11 _ rfl) (by omega) rfl
  clear h hf hlen hlen' hx hlt
  match cs, hl with
  | [c0, c1, c2, c3, c4, c5, c6, c7, c8, c9, c10, c11], _ =>
    simp at a1 h1 h2 h3 h4 h5 h6 h7 h8 h9 h10 h11
    refine ⟨rfl, ⟨sz, z1, z2, z3, z4, z5, z6, z7, z8, z9, z10, z11⟩, A, c, by simp [cfgVals, a1, h1, h2, h3, h4, h5, h6, h7, h8, h9, h10, h11], ⟨a2, a3, a4, a5⟩, wf_one g2, wf_one g3, wf_W64 a6, ?_⟩
    refine wf_W64 fun z hz => ?_
    simp only [List.mem_cons, List.not_mem_nil, or_false] at hz
    rcases hz with rfl | rfl | rfl | rfl | rfl | rfl | rfl | rfl | rfl <;> assumption⟩
def rInpA : Reader Inp := fun w cs i => ∃ A c D cd T ct R cr, cs = (inpVals A c D cd T ct R cr i).toList ∧ InpRaw w A c D T ct R i ∧ i.data.length ≤ cd ∧ cd ≤ 9223372036854775807 ∧ i.draws.length ≤ cr ∧ cr ≤ 9223372036854775807 ∧ ct ≤ 9223372036854775807 ∧ W64 i.cfg.sizes ∧ W64 [i.cfg.shift, i.cfg.workers, i.cfg.batch, i.cfg.micros, i.cfg.steps, i.cfg.bucket, i.cfg.chunk, i.cfg.window, i.cfg.cap]
set_option maxRecDepth 100000 in
set_option maxHeartbeats 1000000 in
theorem opens_inp : Opens Tryz.prog 29 15 rInpA := ⟨cells_inpO, fun {H enc W fuel cs x} h hlt => by
  obtain ⟨xs, n, _, hx, hl, hlen, hf⟩ := DataW.trod_struct Tryz.underlying29 h
  rw [cells_inpO] at hl
  have hlen' : xs.length = 4 := hlen
  obtain ⟨k, A, c, k1, k2, k3, k4, k5, k6⟩ := field_opens opens_cfg Tryz.underlying29 hx hlt (hf 0 _ rfl) (by omega) rfl
  obtain ⟨da, D, cd, d1, d2, d3, d4, d5⟩ := field_opens opens_exs Tryz.underlying29 hx hlt (hf 1 _ rfl) (by omega) rfl
  obtain ⟨st, T, ct, t1, t2, t3, t4, t5, t6⟩ := field_opens opens_i64s Tryz.underlying29 hx hlt (hf 2 _ rfl) (by omega) rfl
  obtain ⟨dr, R, cr, r1, r2, r3, r4, r5, r6⟩ := field_opens opens_u64s Tryz.underlying29 hx hlt (hf 3 _ rfl) (by omega) rfl
  clear h hf hlen hlen' hx hlt
  match cs, hl with
  | [c0, c1, c2, c3, c4, c5, c6, c7, c8, c9, c10, c11, c12, c13, c14], _ =>
    simp [cfgVals] at k1 d1 t1 r1
    exact ⟨rfl, ⟨k, da, st, dr⟩, A, c, D, cd, T, ct, R, cr, by simp [inpVals, k1, d1, t1, r1], ⟨k2, d5, d4, rNums_rd t2 t4 t5 t6, r5, r4, wf_U64 r6, k3, k4⟩, d2, d3, r2, r3, t3, k5, k6⟩⟩
set_option maxRecDepth 100000 in
theorem open_inp {H : Type} {enc : TypeId × Value → H} {W : World} {base : Nat} {v : Value} {d : DataW H} {p : List MemPlace} (o : Value.okWide Tryz.prog W .any base 29 v) (h : DataW.Trod enc Tryz.prog W 0 (fun _ => true) true 29 v d p) (z : Light Tryz.prog 29 d) :
    ∃ (A : Option Addr) (c : Nat) (D : Option Addr) (cd : Nat) (T : Option Addr) (ct : Nat) (R : Option Addr) (cr : Nat) (i : Inp), v = .agg (inpVals A c D cd T ct R cr i) ∧ InpRaw W A c D T ct R i ∧ i.data.length ≤ cd ∧ cd ≤ 9223372036854775807 ∧ i.draws.length ≤ cr ∧ cr ≤ 9223372036854775807 ∧ ct ≤ 9223372036854775807 ∧ W64 i.cfg.sizes ∧ W64 [i.cfg.shift, i.cfg.workers, i.cfg.batch, i.cfg.micros, i.cfg.steps, i.cfg.bucket, i.cfg.chunk, i.cfg.window, i.cfg.cap] := by
  obtain ⟨cs, rfl, _⟩ := okWide_struct Tryz.underlying29 o
  obtain ⟨i, ⟨A, c, D, cd, T, ct, R, cr, e, h1⟩, _⟩ := opens_param opens_inp h z
  refine ⟨A, c, D, cd, T, ct, R, cr, i, ?_, h1⟩
  obtain ⟨l⟩ := cs
  have e' : l = _ := e
  rw [e']
end Go.Proofs.YtaccfnffmbndhaaGreat
