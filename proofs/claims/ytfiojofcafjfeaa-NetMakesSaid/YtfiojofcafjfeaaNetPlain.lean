/- A network in plain lists: its weights and biases, its values, its gradient; and in memory. -/
import Derived.Test.YtfiojofcafjfeaaShapePlain
import Derived.Test.YtfiojofcafjfeaaOpn
set_option linter.unusedSimpArgs false
set_option linter.unusedVariables false
namespace Go.Proofs.Ytfiojofcafjfeaa
open Go.RowKit

/-- The weights behind layer k, the biases. -/
def wL (sz ps : List Int) (k : Nat) : List Int := upTo (szN sz (k + 1) * szN sz k) fun i => nth ps (cntN sz k + i)
def bL (sz ps : List Int) (k : Nat) : List Int := upTo (szN sz (k + 1)) fun i => nth ps (midN sz k + i)
theorem wL_len (sz ps : List Int) (k : Nat) : (wL sz ps k).length = szN sz (k + 1) * szN sz k := upTo_len _ _
theorem bL_len (sz ps : List Int) (k : Nat) : (bL sz ps k).length = szN sz (k + 1) := upTo_len _ _

/-- The cells of a link. -/
def LinkCs (w : World) (cs : List Value) (sz ps : List Int) (k : Nat) : Prop := ∃ g o d B e,
  cs = [.int .i64 (szN sz (k + 1) : Int), .int .i64 (szN sz k : Int), .slice (some ⟨g, o, none⟩) (szN sz (k + 1) * szN sz k) d, .slice B (szN sz (k + 1)) e] ∧ szN sz (k + 1) * szN sz k ≤ d ∧
  Rd w (some ⟨g, o, none⟩) (nums .i64 (wL sz ps k)) ∧ Rd w B (nums .i64 (bL sz ps k))
/-- A network in memory. -/
def NetAt (TS TN : TypeId) (w : World) (b : Nat) (sz ps : List Int) (q : Int) : Prop := ∃ S Ap cp Al cl rows,
  w.heap[b]? = some (.cells #[.pointer (some ⟨S, 0, none⟩), .slice Ap ps.length cp, .int .i64 q, .slice Al (sz.length - 1) cl] TN (0, 0)) ∧
  ShapeAt TS w S sz ∧ Rd w Ap (nums .i64 ps) ∧ Rd w Al (List.flatten rows) ∧ rows.length = sz.length - 1 ∧ (∀ r ∈ rows, r.length = 4) ∧ ∀ j, j < sz.length - 1 → LinkCs w (rowOf rows j) sz ps j
theorem LinkCs.below {w w' : World} {cs : List Value} {sz ps : List Int} {k : Nat} (h : LinkCs w cs sz ps k) (hb : Below w.heap.size w w') : LinkCs w' cs sz ps k := by
  obtain ⟨g, o, d, B, e, h1, h2, h3, h4⟩ := h
  exact ⟨g, o, d, B, e, h1, h2, h3.below hb, h4.below hb⟩
theorem NetAt.below {TS TN : TypeId} {w w' : World} {b : Nat} {sz ps : List Int} {q : Int} (h : NetAt TS TN w b sz ps q) (hb : Below w.heap.size w w') : NetAt TS TN w' b sz ps q := by
  obtain ⟨S, Ap, cp, Al, cl, rows, h0, h1, h2, h3, h4, h5, h6⟩ := h
  exact ⟨S, Ap, cp, Al, cl, rows, (hb.block b (lt_of_block h0)).trans h0, h1.below hb, h2.below hb, h3.below hb, h4, h5, fun j hj => (h6 j hj).below hb⟩
theorem NetAt.lt {TS TN : TypeId} {w : World} {b : Nat} {sz ps : List Int} {q : Int} (h : NetAt TS TN w b sz ps q) : b < w.heap.size := by
  obtain ⟨S, Ap, cp, Al, cl, rows, h0, _⟩ := h
  exact lt_of_block h0
end Go.Proofs.Ytfiojofcafjfeaa
