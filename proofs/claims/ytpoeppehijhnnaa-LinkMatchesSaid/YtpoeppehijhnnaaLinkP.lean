/- Messages and tags that came in. -/
import Derived.Test.YtpoeppehijhnnaaProg
import Derived.Test.YtpoeppehijhnnaaOpn
import Derived.Test.YtpoeppehijhnnaaLinkX
namespace Go.Proofs.Ytpoeppehijhnnaa
open Go.RowKit Go.ChangeShapes Go.WideShapes Go.ChangeAt

theorem opens_i : Opens Try.prog 3 1 (rInt .i64) := opens_int Try.underlying3 (by kernel_rfl)
theorem opens_i64s : Opens Try.prog 35 1 (rNums .i64) := opens_nums Try.underlying35 Try.underlying2 (by kernel_rfl) (by kernel_rfl) (by kernel_rfl)

def rTag : Reader Tg := fun _ cs t => cs = t.cells
def rMsg : Reader Msg := fun w cs m => ∃ A c, cs = m.tag.cells ++ [.slice A m.vals.length c] ∧ m.vals.length ≤ 17592186043904 ∧ Rd w A (nums .i64 m.vals)

theorem cells_tag : Try.prog.cellsOf 34 = 5 := by kernel_rfl
theorem cells_msg : Try.prog.cellsOf 37 = 6 := by kernel_rfl
set_option maxRecDepth 100000 in
theorem opens_tag : Opens Try.prog 34 5 rTag := ⟨cells_tag, fun {H enc W fuel cs x} h hlt => by
  obtain ⟨xs, n, _, hx, hl, hlen, hf⟩ := DataW.trod_struct Try.underlying34 h
  rw [cells_tag] at hl
  have hlen' : xs.length = 5 := hlen
  obtain ⟨a0, h0, _⟩ := field_opens opens_i Try.underlying34 hx hlt (hf 0 _ rfl) (by omega) rfl
  obtain ⟨a1, h1, _⟩ := field_opens opens_i Try.underlying34 hx hlt (hf 1 _ rfl) (by omega) rfl
  obtain ⟨a2, h2, _⟩ := field_opens opens_i Try.underlying34 hx hlt (hf 2 _ rfl) (by omega) rfl
  obtain ⟨a3, h3, _⟩ := field_opens opens_i Try.underlying34 hx hlt (hf 3 _ rfl) (by omega) rfl
  obtain ⟨a4, h4, _⟩ := field_opens opens_i Try.underlying34 hx hlt (hf 4 _ rfl) (by omega) rfl
  clear h hf hlen hlen' hx hlt
  match cs, hl with
  | [c0, c1, c2, c3, c4], _ =>
    simp at h0 h1 h2 h3 h4
    exact ⟨rfl, ⟨a0, a1, a2, a3, a4⟩, by unfold rTag Tg.cells; simp [h0, h1, h2, h3, h4]⟩⟩
set_option maxRecDepth 100000 in
theorem opens_msg : Opens Try.prog 37 6 rMsg := ⟨cells_msg, fun {H enc W fuel cs x} h hlt => by
  obtain ⟨xs, n, _, hx, hl, hlen, hf⟩ := DataW.trod_struct Try.underlying37 h
  rw [cells_msg] at hl
  have hlen' : xs.length = 2 := hlen
  obtain ⟨t, h0⟩ := field_opens opens_tag Try.underlying37 hx hlt (hf 0 _ rfl) (by omega) rfl
  obtain ⟨zs, A, c, h1, h2, h3, h5, h4, _⟩ := field_opens opens_i64s Try.underlying37 hx hlt (hf 1 _ rfl) (by omega) rfl
  clear h hf hlen hlen' hx hlt
  match cs, hl with
  | [c0, c1, c2, c3, c4, c5], _ =>
    simp [rTag] at h0 h1
    exact ⟨rfl, ⟨t, zs⟩, A, c, by rw [← h0, ← h1]; rfl, by dsimp only; omega, h4⟩⟩

set_option maxRecDepth 100000 in
theorem open_msg {H : Type} {enc : TypeId × Value → H} {W : World} {base : Nat} {v : Value} {d : DataW H} {p : List MemPlace} (o : Value.okWide Try.prog W .any base 37 v) (h : DataW.Trod enc Try.prog W 0 (fun _ => true) true 37 v d p) (z : Light Try.prog 37 d) :
    ∃ (t0 t1 t2 t3 t4 : Int) (A : Option Addr) (zs : List Int) (c : Nat), v = .agg #[.int .i64 t0, .int .i64 t1, .int .i64 t2, .int .i64 t3, .int .i64 t4, .slice A zs.length c] ∧ zs.length ≤ 17592186043904 ∧ Rd W A (nums .i64 zs) := by
  obtain ⟨cs, rfl, _⟩ := okWide_struct Try.underlying37 o
  obtain ⟨⟨⟨t0, t1, t2, t3, t4⟩, zs⟩, ⟨A, c, e, hl, hr⟩, _⟩ := opens_param opens_msg h z
  refine ⟨t0, t1, t2, t3, t4, A, zs, c, ?_, hl, hr⟩
  obtain ⟨l⟩ := cs
  have e' : l = _ := e
  rw [e']; rfl
set_option maxRecDepth 100000 in
theorem open_tag {H : Type} {enc : TypeId × Value → H} {W : World} {base : Nat} {v : Value} {d : DataW H} {p : List MemPlace} (o : Value.okWide Try.prog W .any base 34 v) (h : DataW.Trod enc Try.prog W 0 (fun _ => true) true 34 v d p) (z : Light Try.prog 34 d) :
    ∃ (t0 t1 t2 t3 t4 : Int), v = .agg #[.int .i64 t0, .int .i64 t1, .int .i64 t2, .int .i64 t3, .int .i64 t4] := by
  obtain ⟨cs, rfl, _⟩ := okWide_struct Try.underlying34 o
  obtain ⟨⟨t0, t1, t2, t3, t4⟩, e, _⟩ := opens_param opens_tag h z
  refine ⟨t0, t1, t2, t3, t4, ?_⟩
  obtain ⟨l⟩ := cs
  have e' : l = _ := e
  rw [e']; rfl
end Go.Proofs.Ytpoeppehijhnnaa
