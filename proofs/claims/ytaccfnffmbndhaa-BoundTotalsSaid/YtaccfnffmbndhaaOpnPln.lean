/- A plan's configuration that came in. -/
import Derived.Test.YtaccfnffmbndhaaOpnNum
import Derived.Test.YtaccfnffmbndhaaConf
set_option linter.unusedSimpArgs false
set_option linter.unusedVariables false
namespace Go.Proofs.Ytaccfnffmbndhaa
open Go.RowKit Go.ChangeShapes Go.WideShapes Go.ChangeAt

theorem opens_l : Opens Try.prog 2 1 (rInt .i64) := opens_int Try.underlying2 (by kernel_rfl)
theorem wf_one {z : Int} (h : (Lit.int .i64 z).wf = true) : -9223372036854775808 ≤ z ∧ z ≤ 9223372036854775807 := by
  simpa [Lit.wf, IntKind.min, IntKind.max, IntKind.signed, IntKind.bits] using h
theorem cells_cfgO : Try.prog.cellsOf 24 = 12 := by kernel_rfl
def rCfg : Reader Cfg := fun w cs k => ∃ A c, cs = (cfgVals A c k).toList ∧ CfgRd w A c k ∧ (-9223372036854775808 ≤ k.rate ∧ k.rate ≤ 9223372036854775807) ∧ (-9223372036854775808 ≤ k.mom ∧ k.mom ≤ 9223372036854775807) ∧ W64 k.sizes ∧ W64 [k.shift, k.workers, k.batch, k.micros, k.steps, k.bucket, k.chunk, k.window, k.cap]
set_option maxRecDepth 100000 in
set_option maxHeartbeats 1000000 in
theorem opens_cfg : Opens Try.prog 24 12 rCfg := ⟨cells_cfgO, fun {H enc W fuel cs x} h hlt => by
  obtain ⟨xs, n, _, hx, hl, hlen, hf⟩ := DataW.trod_struct Try.underlying24 h
  rw [cells_cfgO] at hl
  have hlen' : xs.length = 12 := hlen
  obtain ⟨sz, A, c, a1, a2, a3, a4, a5, a6⟩ := field_opens opens_ints Try.underlying24 hx hlt (hf 0 _ rfl) (by omega) rfl
  obtain ⟨z1, h1, g1⟩ := field_opens opens_i Try.underlying24 hx hlt (hf 1 _ rfl) (by omega) rfl
  obtain ⟨z2, h2, g2⟩ := field_opens opens_l Try.underlying24 hx hlt (hf 2 _ rfl) (by omega) rfl
  obtain ⟨z3, h3, g3⟩ := field_opens opens_l Try.underlying24 hx hlt (hf 3 _ rfl) (by omega) rfl
  obtain ⟨z4, h4, g4⟩ := field_opens opens_i Try.underlying24 hx hlt (hf 4 _ rfl) (by omega) rfl
  obtain ⟨z5, h5, g5⟩ := field_opens opens_i Try.underlying24 hx hlt (hf 5 _ rfl) (by omega) rfl
  obtain ⟨z6, h6, g6⟩ := field_opens opens_i Try.underlying24 hx hlt (hf 6 _ rfl) (by omega) rfl
  obtain ⟨z7, h7, g7⟩ := field_opens opens_i Try.underlying24 hx hlt (hf 7 _ rfl) (by omega) rfl
  obtain ⟨z8, h8, g8⟩ := field_opens opens_i Try.underlying24 hx hlt (hf 8 _ rfl) (by omega) rfl
  obtain ⟨z9, h9, g9⟩ := field_opens opens_i Try.underlying24 hx hlt (hf 9 _ rfl) (by omega) rfl
  obtain ⟨z10, h10, g10⟩ := field_opens opens_i Try.underlying24 hx hlt (hf 10 _ rfl) (by omega) rfl
  obtain ⟨z11, h11, g11⟩ := field_opens opens_i Try.underlying24 hx hlt (hf 11 _ rfl) (by omega) rfl
  clear h hf hlen hlen' hx hlt
  match cs, hl with
  | [c0, c1, c2, c3, c4, c5, c6, c7, c8, c9, c10, c11], _ =>
    simp at a1 h1 h2 h3 h4 h5 h6 h7 h8 h9 h10 h11
    refine ⟨rfl, ⟨sz, z1, z2, z3, z4, z5, z6, z7, z8, z9, z10, z11⟩, A, c, by simp [cfgVals, a1, h1, h2, h3, h4, h5, h6, h7, h8, h9, h10, h11], ⟨a2, a3, a4, a5⟩, wf_one g2, wf_one g3, wf_W64 a6, ?_⟩
    refine wf_W64 fun z hz => ?_
    simp only [List.mem_cons, List.not_mem_nil, or_false] at hz
    rcases hz with rfl | rfl | rfl | rfl | rfl | rfl | rfl | rfl | rfl <;> assumption⟩
theorem cells_plO : Try.prog.cellsOf 26 = 13 := by kernel_rfl
def rPln : Reader (Cfg × Int) := fun w cs x => ∃ A c, cs = (cfgVals A c x.1).toList ++ [.int .i64 x.2] ∧ CfgRd w A c x.1
set_option maxRecDepth 100000 in
theorem opens_pl : Opens Try.prog 26 13 rPln := ⟨cells_plO, fun {H enc W fuel cs x} h hlt => by
  obtain ⟨xs, n, _, hx, hl, hlen, hf⟩ := DataW.trod_struct Try.underlying26 h
  rw [cells_plO] at hl
  have hlen' : xs.length = 2 := hlen
  obtain ⟨k, A, c, k1, k2, k3, k4, k5, k6⟩ := field_opens opens_cfg Try.underlying26 hx hlt (hf 0 _ rfl) (by omega) rfl
  obtain ⟨z1, h1, g1⟩ := field_opens opens_i Try.underlying26 hx hlt (hf 1 _ rfl) (by omega) rfl
  clear h hf hlen hlen' hx hlt
  match cs, hl with
  | [c0, c1, c2, c3, c4, c5, c6, c7, c8, c9, c10, c11, c12], _ =>
    simp [cfgVals] at k1 h1
    exact ⟨rfl, ⟨k, z1⟩, A, c, by simp [cfgVals, k1, h1], k2⟩⟩
set_option maxRecDepth 100000 in
theorem open_pl {H : Type} {enc : TypeId × Value → H} {W : World} {base : Nat} {v : Value} {d : DataW H} {p : List MemPlace} (o : Value.okWide Try.prog W .any base 26 v) (h : DataW.Trod enc Try.prog W 0 (fun _ => true) true 26 v d p) (z : Light Try.prog 26 d) :
    ∃ (A : Option Addr) (c : Nat) (k : Cfg) (n : Int), v = .agg #[.slice A k.sizes.length c, .int .i64 k.shift, .int .i64 k.rate, .int .i64 k.mom, .int .i64 k.workers, .int .i64 k.batch, .int .i64 k.micros, .int .i64 k.steps, .int .i64 k.bucket, .int .i64 k.chunk, .int .i64 k.window, .int .i64 k.cap, .int .i64 n] ∧ CfgRd W A c k := by
  obtain ⟨cs, rfl, _⟩ := okWide_struct Try.underlying26 o
  obtain ⟨⟨k, n⟩, ⟨A, c, e, h1⟩, _⟩ := opens_param opens_pl h z
  refine ⟨A, c, k, n, ?_, h1⟩
  obtain ⟨l⟩ := cs
  have e' : l = _ := e
  rw [e']; rfl
end Go.Proofs.Ytaccfnffmbndhaa
