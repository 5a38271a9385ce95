/- What comes in, opened: a slice of numbers. -/
import Derived.Test.YtpoeppehijhnnaaLib
import Derived.ProofKit
import Derived.OpenShut
import Derived.Deep.Slices
namespace Go.Proofs.Ytpoeppehijhnnaa
open Go.RowKit Go.ChangeShapes Go.WideShapes Go.ChangeAt

theorem addr_of_cell {w : World} {a : Addr} {u : Value} (h : w.cell? a = some u) : a = ⟨a.block, a.off, none⟩ := by
  obtain ⟨b, o, s⟩ := a
  unfold World.cell? at h
  split at h
  · cases s with
    | none => rfl
    | some x => simp at h
  · cases h

/-- The cells behind an address, as the reader of data meets them. -/
theorem rd_of_adds {w : World} {a : Addr} {xs : List Value} (h : ∀ i u, xs[i]? = some u → w.cell? (a.add i) = some u) : Rd w (some a) xs := fun k u hu => by
  have h0 : ∃ u0, xs[0]? = some u0 := by
    have := (List.getElem?_eq_some_iff.1 hu).1
    exact ⟨xs[0], List.getElem?_eq_getElem (by omega)⟩
  obtain ⟨u0, hu0⟩ := h0
  have h00 := h 0 u0 hu0
  have e : a.add 0 = a := by simp [Addr.add]
  rw [e] at h00
  have ha := addr_of_cell h00
  refine ⟨a.block, a.off, by rw [← ha], ?_⟩
  have hk := h k u hu
  rw [ha, Addr.add_lit] at hk
  exact hk

theorem open_nums {H : Type} {enc : TypeId × Value → H} {P : Program} {W : World} {base : Nat} {t e : TypeId} {q : IntKind} {v : Value} {d : DataW H} {p : List MemPlace}
    (ht : P.underlying t = some (.slice e)) (he : P.underlying e = some (.int q)) (hc : P.cellsOf e = 1) (o : Value.okWide P W .any base t v) (h : DataW.Trod enc P W 0 (fun _ => true) true t v d p) :
    ∃ A c zs, v = .slice A (zs : List Int).length c ∧ zs.length ≤ c ∧ c ≤ 9223372036854775807 ∧ Rd W A (nums q zs) ∧ ∀ k, k < zs.length → (Lit.int q (nth zs k)).wf = true := by
  obtain ⟨a, len, cap, rfl⟩ := okWide_slice ht o
  obtain ⟨fuel, hf⟩ := h
  rcases open_ints ht he hc hf with ⟨hcs, _⟩ | ⟨x, l, c, zs, hcs, _, hl, hm, hz, _, hcell, hwz⟩
  · simp [Value.cells] at hcs
    obtain ⟨rfl, rfl, rfl⟩ := hcs
    exact ⟨none, 0, [], rfl, Nat.le_refl _, by omega, Rd.nil _ _, fun k hk => by simp at hk⟩
  · simp [Value.cells] at hcs
    obtain ⟨rfl, rfl, rfl⟩ := hcs
    have hlen : (zs.take len).length = len := by simp at hz; simp; omega
    refine ⟨some x, cap, zs.take len, by rw [hlen], by rw [hlen]; exact hl, by unfold maxLen at hm; exact hm, ?_, ?_⟩
    · refine rd_of_adds fun i u hu => ?_
      rw [← nums_take, List.getElem?_take] at hu
      split at hu
      · rename_i hi
        have hi' : i < zs.length := by simp at hz; omega
        rw [nums_get q zs i hi'] at hu
        rw [hcell i hi', ← hu]
        rfl
      · cases hu
    · intro k hk
      refine hwz _ ?_
      rw [nth_eq _ _ hk]
      exact List.mem_of_mem_take (List.getElem_mem hk)
end Go.Proofs.Ytpoeppehijhnnaa
