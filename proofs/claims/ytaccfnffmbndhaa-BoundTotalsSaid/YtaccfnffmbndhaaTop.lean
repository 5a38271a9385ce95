/- A world whose blocks below a number are empty: what is read there lies above. -/
import Derived.Test.YtaccfnffmbndhaaOpn
set_option linter.unusedSimpArgs false
set_option linter.unusedVariables false
namespace Go.Proofs.Ytaccfnffmbndhaa
open Go.RowKit

def topW (B : Nat) (w : World) : World := { w with heap := w.heap.mapIdx fun k o => if k < B then .cells #[] 0 (0, 0) else o }
theorem top_size (B : Nat) (w : World) : (topW B w).heap.size = w.heap.size := by simp [topW]
theorem top_blk {B k : Nat} {w : World} (h : B ≤ k) : (topW B w).heap[k]? = w.heap[k]? := by
  simp only [topW, Array.getElem?_mapIdx]
  have h' : ¬ k < B := by omega
  simp [h']
theorem top_low {B k : Nat} {w : World} (h : k < B) (hk : k < w.heap.size) : (topW B w).heap[k]? = some (.cells #[] 0 (0, 0)) := by
  simp only [topW, Array.getElem?_mapIdx]
  simp [h, hk]
theorem top_keep (B : Nat) (w : World) : Keep (fun j => j < B) w (topW B w) := ⟨rfl, rfl, rfl, by rw [top_size]; exact Nat.le_refl _, fun k _ hn => top_blk (by omega)⟩
theorem own_top {w : World} {B base : Nat} {e : TypeId} {size : Nat} {v : Value} {n : Nat} {xs : List Value} (h : w.ownsRow base e size v n xs) (hB : B ≤ base) : (topW B w).ownsRow base e size v n xs :=
  (top_keep B w).own h fun k hk hl => by have := (h.lt k hk).1; omega
theorem top_below {B : Nat} {w w' : World} (h : Below w.heap.size w w') : Below (topW B w).heap.size (topW B w) (topW B w') :=
  ⟨h.os, h.tape, h.output, by rw [top_size, top_size]; exact h.size, fun k hk => by
    rw [top_size] at hk
    rcases Nat.lt_or_ge k B with hb | hb
    · rw [top_low hb (Nat.lt_of_lt_of_le hk h.size), top_low hb hk]
    · rw [top_blk hb, top_blk hb, h.block k hk]⟩
/-- The same from a number on. -/
def Agr (B : Nat) (u v : World) : Prop := ∀ k, B ≤ k → k < u.heap.size → v.heap[k]? = u.heap[k]?
theorem Agr.refl (B : Nat) (u : World) : Agr B u u := fun _ _ _ => rfl
theorem top_cell {B : Nat} {u v : World} {a : Addr} {x : Value} (h : (topW B u).cell? a = some x) (hv : Agr B u v) : v.cell? a = some x := by
  have hl := lt_of_cell h
  rw [top_size] at hl
  rcases Nat.lt_or_ge a.block B with hb | hb
  · have h0 := top_low (w := u) hb hl
    rw [World.cell?] at h
    simp only [h0] at h
    simp at h
  · exact (World.cell?_of_block (w := topW B u) ((hv _ hb hl).trans (top_blk hb).symm)).trans h
theorem top_heap {B : Nat} {u v : World} {b : Nat} {x : Value} {xs : List Value} {t : TypeId} {fr : Nat × Nat} (h : (topW B u).heap[b]? = some (.cells (x :: xs).toArray t fr)) (hv : Agr B u v) : v.heap[b]? = some (.cells (x :: xs).toArray t fr) := by
  have hl := lt_of_block h
  rw [top_size] at hl
  rcases Nat.lt_or_ge b B with hb | hb
  · rw [top_low hb hl] at h
    simp at h
  · rw [hv b hb hl, ← top_blk hb]; exact h
theorem top_rd {B : Nat} {u v : World} {A : Option Addr} {xs : List Value} (h : Rd (topW B u) A xs) (hv : Agr B u v) : Rd v A xs := fun k x hx => by
  obtain ⟨b, o, e, hc⟩ := h k x hx
  exact ⟨b, o, e, top_cell hc hv⟩
theorem agr_top {B B1 : Nat} {u : World} (h : B ≤ B1) : Agr B1 u (topW B u) := fun k hk _ => top_blk (by omega)
theorem agr_keep {B : Nat} {u v : World} (h : Keep (fun j => j < B) u v) : Agr B u v := fun k hk hl => h.block k hl (by omega)
/-- A reader that looks nowhere but where it reads. -/
def Tops {α : Type} (R : Reader α) : Prop := ∀ {B : Nat} {u v : World} {cs : List Value} {x : α}, R (topW B u) cs x → Agr B u v → R v cs x
theorem top_sl {α : Type} {R : Reader α} {size B : Nat} {u v : World} {A : Option Addr} {l : List α} (hR : Tops R) (h : SlRd R size (topW B u) A l) (hv : Agr B u v) : SlRd R size v A l := by
  obtain ⟨rows, h1, h2, h3, h4⟩ := h
  exact ⟨rows, top_rd h1 hv, h2, h3, fun j x hx => hR (h4 j x hx) hv⟩
end Go.Proofs.Ytaccfnffmbndhaa
