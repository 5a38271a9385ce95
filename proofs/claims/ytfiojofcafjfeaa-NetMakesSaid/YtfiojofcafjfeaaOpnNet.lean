/- A network of the reference that came in. -/
import Derived.Test.YtfiojofcafjfeaaLaw09
import Derived.Test.YtfiojofcafjfeaaOpn
set_option linter.unusedSimpArgs false
set_option linter.unusedVariables false
namespace Go.Proofs.Ytfiojofcafjfeaa
open Go.RowKit Go.ChangeShapes Go.WideShapes Go.ChangeAt

theorem opens_i : Opens Try.prog 3 1 (rInt .i64) := opens_int Try.underlying3 (by kernel_rfl)
theorem opens_i64s : Opens Try.prog 23 1 (rNums .i64) := opens_nums Try.underlying23 Try.underlying2 (by kernel_rfl) (by kernel_rfl) (by kernel_rfl)
theorem opens_ints : Opens Try.prog 22 1 (rNums .i64) := opens_nums Try.underlying22 Try.underlying3 (by kernel_rfl) (by kernel_rfl) (by kernel_rfl)
set_option maxRecDepth 100000 in
theorem wf_W64 {l : List Int} (h : ∀ z ∈ l, (Lit.int .i64 z).wf = true) : W64 l := fun k hk => by
  have := h _ (nth_mem hk)
  simpa [Lit.wf, IntKind.min, IntKind.max, IntKind.signed, IntKind.bits] using this

/-- A slice of numbers that came in. -/
structure NumsIn (w : World) (A : Option Addr) (l : List Int) (c : Nat) : Prop where
  hc : l.length ≤ c
  hm : c ≤ 9223372036854775807
  hl : l.length ≤ 17592186043904
  hr : Rd w A (nums .i64 l)
  hw : W64 l
theorem cells_rnet : Try.prog.cellsOf 25 = 3 := by kernel_rfl
def rRNet : Reader (List Int × List Int × Int) := fun w cs n => ∃ A c B d, cs = [.slice A n.1.length c, .slice B n.2.1.length d, .int .i64 n.2.2] ∧ NumsIn w A n.1 c ∧ NumsIn w B n.2.1 d
set_option maxRecDepth 100000 in
theorem opens_rnet : Opens Try.prog 25 3 rRNet := ⟨cells_rnet, fun {H enc W fuel cs x} h hlt => by
  obtain ⟨xs, n, _, hx, hl, hlen, hf⟩ := DataW.trod_struct Try.underlying25 h
  rw [cells_rnet] at hl
  have hlen' : xs.length = 3 := hlen
  obtain ⟨sz, A, c, a1, a2, a3, a4, a5, a6⟩ := field_opens opens_ints Try.underlying25 hx hlt (hf 0 _ rfl) (by omega) rfl
  obtain ⟨ps, B, d, b1, b2, b3, b4, b5, b6⟩ := field_opens opens_i64s Try.underlying25 hx hlt (hf 1 _ rfl) (by omega) rfl
  obtain ⟨q, q1, _⟩ := field_opens opens_i Try.underlying25 hx hlt (hf 2 _ rfl) (by omega) rfl
  clear h hf hlen hlen' hx hlt
  match cs, hl with
  | [c0, c1, c2], _ =>
    simp at a1 b1 q1
    exact ⟨rfl, ⟨sz, ps, q⟩, A, c, B, d, by simp [a1, b1, q1], ⟨a2, a3, a4, a5, wf_W64 a6⟩, ⟨b2, b3, b4, b5, wf_W64 b6⟩⟩⟩
set_option maxRecDepth 100000 in
theorem open_rnet {H : Type} {enc : TypeId × Value → H} {W : World} {base : Nat} {v : Value} {d : DataW H} {p : List MemPlace} (o : Value.okWide Try.prog W .any base 25 v) (h : DataW.Trod enc Try.prog W 0 (fun _ => true) true 25 v d p) (z : Light Try.prog 25 d) :
    ∃ (As Ap : Option Addr) (sz ps : List Int) (cs cp : Nat) (q : Int), v = .agg #[.slice As sz.length cs, .slice Ap ps.length cp, .int .i64 q] ∧ NumsIn W As sz cs ∧ NumsIn W Ap ps cp := by
  obtain ⟨cs, rfl, _⟩ := okWide_struct Try.underlying25 o
  obtain ⟨⟨sz, ps, q⟩, ⟨A, c, B, d, e, h1, h2⟩, _⟩ := opens_param opens_rnet h z
  refine ⟨A, B, sz, ps, c, d, q, ?_, h1, h2⟩
  obtain ⟨l⟩ := cs
  have e' : l = _ := e
  rw [e']
set_option maxRecDepth 100000 in
theorem open_i64s {H : Type} {enc : TypeId × Value → H} {W : World} {base : Nat} {v : Value} {d : DataW H} {p : List MemPlace} (o : Value.okWide Try.prog W .any base 23 v) (h : DataW.Trod enc Try.prog W 0 (fun _ => true) true 23 v d p) (z : Light Try.prog 23 d) :
    ∃ (A : Option Addr) (l : List Int) (c : Nat), v = .slice A l.length c ∧ NumsIn W A l c := by
  obtain ⟨a, len, cap, rfl⟩ := okWide_slice Try.underlying23 o
  obtain ⟨l, ⟨A, c, e, h1, h2, h3, h4, h5⟩, _⟩ := opens_param opens_i64s h z
  simp [Value.cells] at e
  obtain ⟨rfl, rfl, rfl⟩ := e
  exact ⟨_, l, _, rfl, ⟨h1, h2, h3, h4, wf_W64 h5⟩⟩
end Go.Proofs.Ytfiojofcafjfeaa
