/- LinkMatches: its calls that came in; few. -/
import Derived.Test.YtpoeppehijhnnaaLinkH
import Derived.Test.YtpoeppehijhnnaaLinkP
namespace Go.Proofs.Ytpoeppehijhnnaa
open Go.RowKit Go.ChangeShapes Go.WideShapes Go.ChangeAt

/-- A call. -/
structure OpD where
  kind : Int
  m : Msg
  first : Bool
def rOp : Reader OpD := fun w cs o => ∃ A c, cs = .int .i64 o.kind :: (o.m.tag.cells ++ [.slice A o.m.vals.length c, .bool o.first]) ∧ o.m.vals.length ≤ 17592186043904 ∧ Rd w A (nums .i64 o.m.vals)
theorem stays_op : Stays rOp := fun hb ⟨A, c, h1, h2, h3⟩ => ⟨A, c, h1, h2, h3.below hb⟩

theorem cells_op : Try.prog.cellsOf 59 = 8 := by kernel_rfl
theorem opens_b : Opens Try.prog 4 1 rBool := opens_bool Try.underlying4 (by kernel_rfl)
set_option maxRecDepth 100000 in
theorem opens_op : Opens Try.prog 59 8 rOp := ⟨cells_op, fun {H enc W fuel cs x} h hlt => by
  obtain ⟨xs, n, _, hx, hl, hlen, hf⟩ := DataW.trod_struct Try.underlying59 h
  rw [cells_op] at hl
  have hlen' : xs.length = 3 := hlen
  obtain ⟨k, h0, _⟩ := field_opens opens_i Try.underlying59 hx hlt (hf 0 _ rfl) (by omega) rfl
  obtain ⟨m, A, c, h1, h3, h4⟩ := field_opens opens_msg Try.underlying59 hx hlt (hf 1 _ rfl) (by omega) rfl
  obtain ⟨b, h2⟩ := field_opens opens_b Try.underlying59 hx hlt (hf 2 _ rfl) (by omega) rfl
  clear h hf hlen hlen' hx hlt
  match cs, hl with
  | [c0, c1, c2, c3, c4, c5, c6, c7], _ =>
    simp [rBool] at h0 h2
    have h1' : [c1, c2, c3, c4, c5, c6] = m.tag.cells ++ [.slice A m.vals.length c] := h1
    refine ⟨rfl, ⟨k, m, b⟩, A, c, ?_, h3, h4⟩
    rw [h0, h2]
    have : [c1, c2, c3, c4, c5, c6] ++ [Value.bool b] = (m.tag.cells ++ [.slice A m.vals.length c]) ++ [Value.bool b] := by rw [h1']
    simp only [List.append_assoc, List.cons_append, List.nil_append] at this ⊢
    rw [this]⟩

/-- An element: its cells. -/
theorem op_cells {w : World} {A : Option Addr} {ops : List OpD} (h : SlRd rOp 8 w A ops) {k : Nat} {o : OpD} (ho : ops[k]? = some o) :
    ∃ b f B d, A = some ⟨b, f, none⟩ ∧ b < w.heap.size ∧ w.cell? ⟨b, f + k * 8, none⟩ = some (.int .i64 o.kind) ∧ w.cell? ⟨b, f + k * 8 + 1, none⟩ = some (.int .i64 o.m.tag.a) ∧ w.cell? ⟨b, f + k * 8 + 2, none⟩ = some (.int .i64 o.m.tag.b) ∧ w.cell? ⟨b, f + k * 8 + 3, none⟩ = some (.int .i64 o.m.tag.c) ∧
      w.cell? ⟨b, f + k * 8 + 4, none⟩ = some (.int .i64 o.m.tag.d) ∧ w.cell? ⟨b, f + k * 8 + 5, none⟩ = some (.int .i64 o.m.tag.e) ∧ w.cell? ⟨b, f + k * 8 + 6, none⟩ = some (.slice B o.m.vals.length d) ∧ w.cell? ⟨b, f + k * 8 + 7, none⟩ = some (.bool o.first) ∧ o.m.vals.length ≤ 17592186043904 ∧ Rd w B (nums .i64 o.m.vals) := by
  obtain ⟨b, f, cs, rfl, hb, _, ⟨B, d, rfl, hl, hr⟩, h0, hc⟩ := h.get (by omega) ho
  exact ⟨b, f, B, d, rfl, hb, h0, hc 1 (by omega), hc 2 (by omega), hc 3 (by omega), hc 4 (by omega), hc 5 (by omega), hc 6 (by omega), hc 7 (by omega), hl, hr⟩

/-- What few answers: true at most for few calls. -/
def Few18 (n : Nat) (w : World) (e : Ending) (w' : World) : Prop := ∃ b, e = .returned (.bool b) ∧ (b = true → n ≤ 100) ∧ Below w.heap.size w w'

theorem few18_any (A : Option Addr) (ops : List OpD) (c : Nat) (w : World) (h : SlRd rOp 8 w A ops) (hl : ops.length ≤ 17592186043904) :
    Calls Try.prog 31 #[.slice A ops.length c] w (Few18 ops.length w) := by
  have H := Lib.hid h; clear h
  go_enter Try.func31, Try.ntmps31
  go_wp2_with fail
  go_loopw [3, 8] (fun n i wr => ∃ (k : Nat) (s : Int), k ≤ ops.length ∧ 0 ≤ s ∧ s ≤ 1000 ∧ i = .int .i64 k ∧ n = .int .i64 s ∧ Below w.heap.size w wr) (fun _ i _ => ops.length - (intOf i).toNat)
  case atStart => exact ⟨0, 0, Nat.zero_le _, by omega, by omega, rfl, rfl, Below.refl _ _⟩
  case round =>
    obtain ⟨k, s, hk, hs0, hs1, rfl, rfl, hW⟩ := hrel
    by_cases hlt : k < ops.length
    · obtain ⟨o, ho⟩ : ∃ o, ops[k]? = some o := ⟨_, List.getElem?_eq_getElem hlt⟩
      obtain ⟨b, f, B, d, hA, hb, p0, p1, p2, p3, p4, p5, p6, p7, hol, _⟩ := op_cells (H.out.below stays_op hW) ho
      subst hA
      have HW := Lib.hid (hW.trans ((Below.refl _ _).alloc hW.size (.cells #[.int .i64 o.kind, .int .i64 o.m.tag.a, .int .i64 o.m.tag.b, .int .i64 o.m.tag.c, .int .i64 o.m.tag.d, .int .i64 o.m.tag.e, .slice B o.m.vals.length d, .bool o.first] 59))); clear hW ho
      generalize o.m.vals.length = L at *
      generalize o.kind = K at *
      generalize o.m.tag = T at *
      generalize o.first = F at *
      by_cases hm : (1000 : Int) < (L : Int)
      · by_cases hs : s = 0
        · subst hs
          go_wp2_with fail
          go_roundw
          case rel => exact ⟨k + 1, 1000, by omega, by omega, by omega, by go_num, rfl, HW.out⟩
          case measure => simp [intOf]; omega
        · go_wp2_with fail
          go_ret
          exact ⟨false, rfl, (fun h => by cases h), HW.out⟩
      · by_cases hs : s + (L : Int) ≤ 1000
        · go_wp2_with fail
          go_roundw
          case rel => exact ⟨k + 1, s + (L : Int), by omega, by omega, by omega, by go_num, rfl, HW.out⟩
          case measure => simp [intOf]; omega
        · go_wp2_with fail
          go_ret
          exact ⟨false, rfl, (fun h => by cases h), HW.out⟩
    · have HW := Lib.hid hW; clear hW
      go_wp2_with fail
      go_ret
      exact ⟨_, rfl, (fun h => by have := of_decide_eq_true h; omega), HW.out⟩
end Go.Proofs.Ytpoeppehijhnnaa
