/- Blocks that are known whole, beside rows of one's own. -/
import Derived.Test.YtpegdddffenleaaGreatDoorLib
set_option linter.unusedSimpArgs false
set_option linter.unusedVariables false
namespace Go.Proofs.YtpegdddffenleaaGreatDoor
open Go.RowKit

/-- A row of one's own is no block of another type. -/
theorem block_notrow {W : World} {b : Nat} {cs : Array Value} {t e : TypeId} {sg : Nat × Nat} (h : W.heap[b]? = some (.cells cs t sg)) (hte : t ≠ e) {base size k : Nat} {v : Value} {xs : List Value} (hr : W.ownsRow base e size v k xs) : some b ≠ v.ownBlock := by
  rcases hr.2 with ⟨rfl, _⟩ | ⟨g, cap, cur, rfl, _, hgb, _⟩
  · simp [Value.ownBlock]
  · intro e'
    obtain rfl : b = g := by simpa [Value.ownBlock] using e'
    have := h.symm.trans hgb
    simp at this
    exact hte this.2.1
/-- A block that a row does not lie in stays where only that row grows. -/
theorem block_grown {W W' : World} {b : Nat} {cs : Array Value} {t e : TypeId} {sg : Nat × Nat} {o : Obj} (h : W.heap[b]? = some (.cells cs t sg)) (hte : t ≠ e) {base size k : Nat} {v : Value} {xs : List Value} (hr : W.ownsRow base e size v k xs) (hg : (W.alloc o).grownBy W' v.ownBlock) : W'.heap[b]? = some (.cells cs t sg) :=
  (hg.block b (by have := lt_of_block h; simp; omega) (block_notrow h hte hr)).trans ((Below.heap_alloc W o b (lt_of_block h)).trans h)
theorem cell_grown {W W' : World} {b o : Nat} {u : Value} {e : TypeId} {ob : Obj} (h : W.cell? ⟨b, o, none⟩ = some u) {base size k : Nat} {v : Value} {xs : List Value} (hb : b < base) (hr : W.ownsRow base e size v k xs) (hg : (W.alloc ob).grownBy W' v.ownBlock) : W'.cell? ⟨b, o, none⟩ = some u :=
  hg.cell ((World.cell?_of_block (w := W) (Below.heap_alloc W ob b (lt_of_cell h))).trans h) (fun e => by
    have e' : v.ownBlock = some b := e.symm
    have := (hr.lt b e').1
    omega)
/-- Another row of one's own stays where a row grows, and stays another. -/
theorem own_other {W W' : World} {base' : Nat} {e' : TypeId} {size' m : Nat} {v v' u : Value} {ys : List Value} {o : Obj} (hu : W.ownsRow base' e' size' u m ys) (hne : ∀ i, v.ownBlock = some i → u.ownBlock ≠ some i)
    (hg : (W.alloc o).grownBy W' v.ownBlock) (hv : v'.ownBlock = v.ownBlock ∨ v'.ownBlock = some (W.alloc o).heap.size) : W'.ownsRow base' e' size' u m ys ∧ ∀ i, v'.ownBlock = some i → u.ownBlock ≠ some i := by
  refine ⟨(hu.alloc o).kept hg ?_, fun i hi => ?_⟩
  · cases hub : u.ownBlock with
    | none => exact .inl rfl
    | some k => exact .inr fun e => hne k e.symm hub
  · rcases hv with hv | hv
    · exact hne i (hv ▸ hi)
    · intro e
      have h1 := (hu.lt i e).2
      rw [hi] at hv
      simp at hv
      omega
theorem cell_alloc {W : World} {p : Addr} {u : Value} (h : W.cell? p = some u) (o : Obj) : (W.alloc o).cell? p = some u :=
  (World.cell?_of_block (w := W) (Below.heap_alloc W o _ (lt_of_cell h))).trans h
theorem cell_below {w w' : World} {p : Addr} {u : Value} (hb : Below w.heap.size w w') (h : w.cell? p = some u) : w'.cell? p = some u := (World.cell?_of_block (w := w) (hb.block _ (lt_of_cell h))).trans h
/-- Rows of two types lie in two blocks. -/
theorem own_types {W : World} {b1 b2 e1 e2 s1 s2 n1 n2 : Nat} {v1 v2 : Value} {xs1 xs2 : List Value} (h1 : W.ownsRow b1 e1 s1 v1 n1 xs1) (h2 : W.ownsRow b2 e2 s2 v2 n2 xs2) (hne : e1 ≠ e2) : ∀ i, v1.ownBlock = some i → v2.ownBlock ≠ some i := by
  intro i hi e
  rcases h1.2 with ⟨rfl, _⟩ | ⟨g, cap, cur, rfl, _, hgb, _⟩
  · cases hi
  · obtain rfl : g = i := by simpa [Value.ownBlock] using hi
    exact block_notrow hgb hne h2 e.symm
/-- A row of one's own behind an append to a row of another type and a store into a block of a third. -/
theorem own_past {W W' : World} {e' e size' size n m : Nat} {v u y : Value} {xs ys : List Value} {o : Obj} {base base' B j : Nat} {cs : Array Value} {t : TypeId} (hu : W.ownsRow base' e' size' u m ys) (hv : W.ownsRow base e size v n xs) (hg : (W.alloc o).grownBy W' v.ownBlock)
    (hB : W'.heap[B]? = some (.cells cs t (0, 0))) (h1 : e ≠ e') (h2 : t ≠ e') : (W'.setCell ⟨B, j, none⟩ y).ownsRow base' e' size' u m ys := by
  have h3 : W'.ownsRow base' e' size' u m ys := by
    refine (hu.alloc o).kept hg ?_
    cases hub : u.ownBlock with
    | none => exact .inl rfl
    | some k => exact .inr fun e9 => own_types hv hu h1 k e9.symm hub
  exact (Keep.setCell (S := fun i => i = B) (Keep.refl _ W') ⟨B, j, none⟩ (.inr rfl) y).own h3 (fun i hi e9 => block_notrow hB h2 h3 (by rw [hi, e9]))
theorem grown_undrew {W W' : World} {r : Option Nat} (h : W.drew.grownBy W' r) : W.grownBy W' r := ⟨h.os, h.tape, h.output, h.size, h.block⟩
/-- Two boxes filled, one after the other. -/
theorem two_boxes {wr W : World} {M1 M2 : Nat} {t1 t2 : TypeId} {x0 x1 y0 y1 : Value} (a0 a1 c0 c1 : Value) (h1 : W.heap[M1]? = some (.cells #[x0, x1] t1 (0, 0))) (h2 : W.heap[M2]? = some (.cells #[y0, y1] t2 (0, 0))) (hne : M1 ≠ M2) (hb : Below wr.heap.size wr W) (g1 : wr.heap.size ≤ M1) (g2 : wr.heap.size ≤ M2) :
    ((((W.setCell ⟨M1, 0, none⟩ a0).setCell ⟨M1, 1, none⟩ a1).setCell ⟨M2, 0, none⟩ c0).setCell ⟨M2, 1, none⟩ c1).heap[M1]? = some (.cells #[a0, a1] t1 (0, 0)) ∧
    ((((W.setCell ⟨M1, 0, none⟩ a0).setCell ⟨M1, 1, none⟩ a1).setCell ⟨M2, 0, none⟩ c0).setCell ⟨M2, 1, none⟩ c1).heap[M2]? = some (.cells #[c0, c1] t2 (0, 0)) ∧
    Below wr.heap.size wr ((((W.setCell ⟨M1, 0, none⟩ a0).setCell ⟨M1, 1, none⟩ a1).setCell ⟨M2, 0, none⟩ c0).setCell ⟨M2, 1, none⟩ c1) := by
  have e1 := heap_setCell_same W M1 0 _ _ a0 h1
  have e2 := heap_setCell_same _ M1 1 _ _ a1 e1
  have f2 := (Below.heap_setCell (W.setCell ⟨M1, 0, none⟩ a0) ⟨M1, 1, none⟩ a1 M2 (fun e => hne e.symm)).trans ((Below.heap_setCell W ⟨M1, 0, none⟩ a0 M2 (fun e => hne e.symm)).trans h2)
  have f3 := heap_setCell_same _ M2 0 _ _ c0 f2
  have f4 := heap_setCell_same _ M2 1 _ _ c1 f3
  refine ⟨?_, f4, (((hb.setCell (p := ⟨M1, 0, none⟩) g1 a0).setCell (p := ⟨M1, 1, none⟩) g1 a1).setCell (p := ⟨M2, 0, none⟩) g2 c0).setCell (p := ⟨M2, 1, none⟩) g2 c1⟩
  exact (Below.heap_setCell _ ⟨M2, 1, none⟩ c1 M1 hne).trans ((Below.heap_setCell _ ⟨M2, 0, none⟩ c0 M1 hne).trans e2)
end Go.Proofs.YtpegdddffenleaaGreatDoor
