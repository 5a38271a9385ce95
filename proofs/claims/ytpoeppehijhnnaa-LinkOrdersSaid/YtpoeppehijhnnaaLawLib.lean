/- What comes in, opened: a slice of numbers. -/
import Derived.Test.YtpoeppehijhnnaaLib
import Derived.Test.YtpoeppehijhnnaaFew3
import Derived.ProofKit
import Derived.OpenShut
import Derived.Deep.Slices
namespace Go.Proofs.Ytpoeppehijhnnaa
open Go.RowKit Go.ChangeShapes Go.WideShapes Go.ChangeAt

theorem addr_of_cell {w : World} {a : Addr} {u : Value} (h : w.cell? a = some u) : a = ⟨a.block, a.off, none⟩ := by
  obtain ⟨b, o, s⟩ := a
  unfold World.cell? at h
  split at h
  · cases s with
    | none => rfl
    | some x => simp at h
  · cases h

/-- The cells behind an address, as the reader of data meets them. -/
theorem rd_of_adds {w : World} {a : Addr} {xs : List Value} (h : ∀ i u, xs[i]? = some u → w.cell? (a.add i) = some u) : Rd w (some a) xs := fun k u hu => by
  have h0 : ∃ u0, xs[0]? = some u0 := by
    have := (List.getElem?_eq_some_iff.1 hu).1
    exact ⟨xs[0], List.getElem?_eq_getElem (by omega)⟩
  obtain ⟨u0, hu0⟩ := h0
  have h00 := h 0 u0 hu0
  have e : a.add 0 = a := by simp [Addr.add]
  rw [e] at h00
  have ha := addr_of_cell h00
  refine ⟨a.block, a.off, by rw [← ha], ?_⟩
  have hk := h k u hu
  rw [ha, Addr.add_lit] at hk
  exact hk

theorem open_nums {H : Type} {enc : TypeId × Value → H} {P : Program} {W : World} {base : Nat} {t e : TypeId} {q : IntKind} {v : Value} {d : DataW H} {p : List MemPlace}
    (ht : P.underlying t = some (.slice e)) (he : P.underlying e = some (.int q)) (hc : P.cellsOf e = 1) (o : Value.okWide P W .any base t v) (h : DataW.Trod enc P W 0 (fun _ => true) true t v d p) :
    ∃ A c zs, v = .slice A (zs : List Int).length c ∧ zs.length ≤ c ∧ c ≤ 9223372036854775807 ∧ Rd W A (nums q zs) ∧ ∀ k, k < zs.length → (Lit.int q (nth zs k)).wf = true := by
  obtain ⟨a, len, cap, rfl⟩ := okWide_slice ht o
  obtain ⟨fuel, hf⟩ := h
  rcases open_ints ht he hc hf with ⟨hcs, _⟩ | ⟨x, l, c, zs, hcs, _, hl, hm, hz, _, hcell, hwz⟩
  · simp [Value.cells] at hcs
    obtain ⟨rfl, rfl, rfl⟩ := hcs
    exact ⟨none, 0, [], rfl, Nat.le_refl _, by omega, Rd.nil _ _, fun k hk => by simp at hk⟩
  · simp [Value.cells] at hcs
    obtain ⟨rfl, rfl, rfl⟩ := hcs
    have hlen : (zs.take len).length = len := by simp at hz; simp; omega
    refine ⟨some x, cap, zs.take len, by rw [hlen], by rw [hlen]; exact hl, by unfold maxLen at hm; exact hm, ?_, ?_⟩
    · refine rd_of_adds fun i u hu => ?_
      rw [← nums_take, List.getElem?_take] at hu
      split at hu
      · rename_i hi
        have hi' : i < zs.length := by simp at hz; omega
        rw [nums_get q zs i hi'] at hu
        rw [hcell i hi', ← hu]
        rfl
      · cases hu
    · intro k hk
      refine hwz _ ?_
      rw [nth_eq _ _ hk]
      exact List.mem_of_mem_take (List.getElem_mem hk)

theorem open_vecs {H : Type} {enc : TypeId × Value → H} {P : Program} {W : World} {base : Nat} {t e i : TypeId} {q : IntKind} {v : Value} {d : DataW H} {p : List MemPlace}
    (ht : P.underlying t = some (.slice e)) (he : P.underlying e = some (.slice i)) (hi : P.underlying i = some (.int .i64)) (hce : P.cellsOf e = 1) (hci : P.cellsOf i = 1)
    (o : Value.okWide P W .any base t v) (h : DataW.Trod enc P W 0 (fun _ => true) true t v d p) :
    ∃ A c vs, v = .slice A (vs : List (List Int)).length c ∧ vs.length ≤ c ∧ c ≤ 9223372036854775807 ∧ Vecs W A vs := by
  obtain ⟨a, len, cap, rfl⟩ := okWide_slice ht o
  obtain ⟨fuel, hf⟩ := h
  rcases Go.Deep.open_slice1 ht hce hf with ⟨hcs, _⟩ | ⟨x, l, c, m, n, V, D, Pl, hcs, _, hl, hm, hmm, _, hV⟩
  · simp [Value.cells] at hcs
    obtain ⟨rfl, rfl, rfl⟩ := hcs
    exact ⟨none, 0, [], rfl, Nat.le_refl _, by omega, fun k hk => by simp at hk⟩
  · simp [Value.cells] at hcs
    obtain ⟨rfl, rfl, rfl⟩ := hcs
    simp at hmm
    subst hmm
    have inner : ∀ k, k < m → ∃ B c' zs, V k = .slice B (zs : List Int).length c' ∧ Rd W B (nums .i64 zs) := fun k hk => by
      rcases open_ints he hi hci (hV k hk).2 with ⟨hcs, _⟩ | ⟨y, l', c', zs, hcs, _, hl', hm', hz', _, hcell, hwz⟩
      · injection hcs with hcs
        exact ⟨none, 0, [], hcs, Rd.nil _ _⟩
      · injection hcs with hcs
        have hlen : (zs.take l').length = l' := by simp at hz'; simp; omega
        refine ⟨some y, c', zs.take l', by rw [hlen]; exact hcs, ?_⟩
        refine rd_of_adds fun j u hu => ?_
        rw [← nums_take, List.getElem?_take] at hu
        split at hu
        · rename_i hj
          have hj' : j < zs.length := by simp at hz'; omega
          rw [nums_get .i64 zs j hj'] at hu
          rw [hcell j hj', ← hu]
          rfl
        · cases hu
    obtain ⟨B, hB⟩ := Go.Deep.choose_lt (α := List Int) (n := m) (p := fun k zs => ∃ B c', V k = .slice B zs.length c' ∧ Rd W B (nums .i64 zs)) (fun k hk => by
      obtain ⟨B, c', zs, h1, h2⟩ := inner k hk
      exact ⟨zs, B, c', h1, h2⟩)
    have hvl : ((List.range len).map B).length = len := by simp
    refine ⟨some x, m, (List.range len).map B, by rw [hvl], by rw [hvl]; exact hl, by unfold maxLen at hm; exact hm, fun k hk => ?_⟩
    rw [hvl] at hk
    have hx0 : W.cell? (x.add 0) = some (V 0) := (hV 0 (by omega)).1
    have e0 : x.add 0 = x := by simp [Addr.add]
    rw [e0] at hx0
    have hx := addr_of_cell hx0
    obtain ⟨B', c', h1, h2⟩ := hB k (by omega)
    have hva : vecAt ((List.range len).map B) k = B k := by simp [vecAt, hk]
    refine ⟨x.block, x.off, by rw [← hx], B', c', ?_, by rw [hva]; exact h2⟩
    have hk' := (hV k (by omega)).1
    rw [hx, Addr.add_lit] at hk'
    rw [hva, ← h1]
    exact hk'
end Go.Proofs.Ytpoeppehijhnnaa
