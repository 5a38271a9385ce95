/- Words of our own for memory: a slice that reads as a list; one element more behind an owned row; worlds that keep what was there. -/
import Derived.WalkKit
import Derived.Lib.Hide
import Derived.Deep.Draws
import Derived.Deep.AppendLies
import Derived.Maps.AppendAt
import Derived.WalkSmall
namespace Go.Proofs.Ytpoeppehijhnnaa
open Go.RowKit

/-! Numbers in lists. -/
/-- The element at a place. -/
def nth (l : List Int) (k : Nat) : Int := l.getD k 0
theorem nth_eq (l : List Int) (k : Nat) (h : k < l.length) : nth l k = l[k] := by simp [nth, List.getD, h]
theorem take_succ_nth (l : List Int) (k : Nat) (h : k < l.length) : l.take (k + 1) = l.take k ++ [nth l k] := by
  rw [List.take_succ_eq_append_getElem h, nth_eq l k h]
theorem take_eq_succ {l1 l2 : List Int} {k : Nat} (h1 : k < l1.length) (h2 : k < l2.length) (h : l1.take k = l2.take k) (hx : nth l1 k = nth l2 k) : l1.take (k + 1) = l2.take (k + 1) := by
  rw [take_succ_nth l1 k h1, take_succ_nth l2 k h2, h, hx]
theorem eq_of_take {l1 l2 : List Int} (h : l1.length = l2.length) (ht : l1.take l1.length = l2.take l1.length) : l1 = l2 := by
  rw [List.take_length] at ht
  rw [ht, h, List.take_length]
theorem ret_int {k : IntKind} {a b : Int} (h : a = b) : Ending.returned (.int k a) = .returned (.int k b) := by rw [h]
theorem ret_bool {a b : Bool} (h : a = b) : Ending.returned (.bool a) = .returned (.bool b) := by rw [h]

/-- Numbers as values. -/
def nums (q : IntKind) (zs : List Int) : List Value := zs.map (.int q)
theorem nums_length (q : IntKind) (zs : List Int) : (nums q zs).length = zs.length := by simp [nums]
theorem nums_append (q : IntKind) (a b : List Int) : nums q (a ++ b) = nums q a ++ nums q b := by simp [nums]
theorem nums_one (q : IntKind) (a : Int) : nums q [a] = [.int q a] := rfl
theorem nums_get (q : IntKind) (zs : List Int) (k : Nat) (h : k < zs.length) : (nums q zs)[k]? = some (.int q (nth zs k)) := by
  simp [nums, nth_eq zs k h, h]
theorem nums_set (q : IntKind) (zs : List Int) (k : Nat) (a : Int) : (nums q zs).set k (.int q a) = nums q (zs.set k a) := by simp [nums, List.map_set]
theorem nums_cell (q : IntKind) (zs : List Int) : ∀ u ∈ nums q zs, u.oneCell' = true := ints_oneCell q zs
theorem nums_take (q : IntKind) (zs : List Int) (n : Nat) : (nums q zs).take n = nums q (zs.take n) := by simp [nums, List.map_take]
theorem nums_drop (q : IntKind) (zs : List Int) (n : Nat) : (nums q zs).drop n = nums q (zs.drop n) := by simp [nums, List.map_drop]
theorem nums_rep (q : IntKind) (n : Nat) (a : Int) : List.replicate n (Value.int q a) = nums q (List.replicate n a) := by simp [nums]

/-! Reading. -/
/-- The cells from A on hold xs. (A is asked for only where there is a cell.) -/
def Rd (w : World) (A : Option Addr) (xs : List Value) : Prop :=
  ∀ k u, xs[k]? = some u → ∃ b o, A = some ⟨b, o, none⟩ ∧ w.cell? ⟨b, o + k, none⟩ = some u

theorem lt_of_cell {w : World} {a : Addr} {u : Value} (h : w.cell? a = some u) : a.block < w.heap.size := World.block_lt_of_cell? w a h

theorem Rd.nil (w : World) (A : Option Addr) : Rd w A [] := fun k u h => by simp at h
theorem Rd.num {w : World} {A : Option Addr} {q : IntKind} {zs : List Int} (h : Rd w A (nums q zs)) {k : Nat} (hk : k < zs.length) :
    ∃ b o, A = some ⟨b, o, none⟩ ∧ w.cell? ⟨b, o + k, none⟩ = some (.int q (nth zs k)) := h k _ (nums_get q zs k hk)
theorem Rd.same {w w' : World} {A : Option Addr} {xs : List Value} (h : Rd w A xs) (hb : ∀ b, b < w.heap.size → w'.heap[b]? = w.heap[b]?) : Rd w' A xs := fun k u hu => by
  obtain ⟨b, o, hA, hc⟩ := h k u hu
  exact ⟨b, o, hA, (World.cell?_of_block (w := w) (hb _ (lt_of_cell hc))).trans hc⟩
theorem Rd.below {w w' : World} {A : Option Addr} {xs : List Value} (h : Rd w A xs) (hb : Below w.heap.size w w') : Rd w' A xs := h.same hb.block
theorem Rd.alloc {w : World} {A : Option Addr} {xs : List Value} (h : Rd w A xs) (o : Obj) : Rd (w.alloc o) A xs := h.same fun b hb => Below.heap_alloc w o b hb
theorem Rd.drew {w : World} {A : Option Addr} {xs : List Value} (h : Rd w A xs) : Rd w.drew A xs := h
theorem Rd.drewN {w : World} {A : Option Addr} {xs : List Value} (h : Rd w A xs) (n : Nat) : Rd (w.drewN n) A xs := h
theorem Rd.belowB {B : Nat} {w w' : World} {A : Option Addr} {xs : List Value} (h : Rd w A xs) (hb : Below B w w') (hA : ∀ a, A = some a → a.block < B) : Rd w' A xs := fun k u hu => by
  obtain ⟨b, o, hA', hc⟩ := h k u hu
  exact ⟨b, o, hA', (hb.cell (p := ⟨b, o + k, none⟩) (show b < B from hA _ hA')).trans hc⟩
theorem Rd.own {w : World} {base : Nat} {e : TypeId} {size n c : Nat} {A : Option Addr} {xs : List Value} (h : w.ownsRow base e size (.slice A n c) n xs) : Rd w A xs := fun k u hu => by
  have hk : k < xs.length := (List.getElem?_eq_some_iff.1 hu).1
  rcases h.2 with ⟨_, h0⟩ | ⟨g, cap, cur, hv, _, hg, _, _, _, htake⟩
  · have := h.1; rw [h0] at this; omega
  · simp only [Value.slice.injEq] at hv
    obtain ⟨rfl, _, rfl⟩ := hv
    refine ⟨g, 0, rfl, ?_⟩
    have h2 := h.cellAt k (by have := h.1; omega)
    rw [Nat.zero_add, h2, hu]
theorem Rd.take {w : World} {A : Option Addr} {xs : List Value} (h : Rd w A xs) (n : Nat) : Rd w A (xs.take n) := fun k u hu => by
  rw [List.getElem?_take] at hu
  split at hu
  · exact h k u hu
  · cases hu
/-- What stands from a place on, behind an address that is that far on. -/
theorem Rd.drop {w : World} {b o : Nat} {xs : List Value} (h : Rd w (some ⟨b, o, none⟩) xs) (n : Nat) : Rd w (some ⟨b, o + n, none⟩) (xs.drop n) := fun k u hu => by
  rw [List.getElem?_drop] at hu
  obtain ⟨b', o', e, hc⟩ := h _ _ hu
  injection e with e
  injection e with e1 e2 _
  subst e1; subst e2
  exact ⟨b, o + n, rfl, by rw [Nat.add_assoc]; exact hc⟩

/-- The form of an owned value. -/
theorem own_form {w : World} {base : Nat} {e : TypeId} {size : Nat} {v : Value} {n : Nat} {xs : List Value} (h : w.ownsRow base e size v n xs) : ∃ A c, v = .slice A n c ∧ n ≤ c := by
  rcases h.2 with ⟨rfl, rfl⟩ | ⟨g, cap, cur, rfl, _, _, hc, _⟩
  · exact ⟨none, 0, rfl, Nat.le_refl _⟩
  · exact ⟨_, _, rfl, hc⟩

/-- A slice of numbers, as a value. -/
def Nums (w : World) (q : IntKind) (v : Value) (zs : List Int) : Prop := ∃ A c, v = .slice A zs.length c ∧ Rd w A (nums q zs)
theorem Nums.own {w : World} {base : Nat} {e : TypeId} {v : Value} {q : IntKind} {zs : List Int} (h : w.ownsRow base e 1 v zs.length (nums q zs)) : Nums w q v zs := by
  obtain ⟨A, c, rfl, _⟩ := own_form h
  exact ⟨A, c, rfl, Rd.own h⟩
theorem Nums.same {w w' : World} {q : IntKind} {v : Value} {zs : List Int} (h : Nums w q v zs) (hb : ∀ b, b < w.heap.size → w'.heap[b]? = w.heap[b]?) : Nums w' q v zs := by
  obtain ⟨A, c, rfl, h⟩ := h
  exact ⟨A, c, rfl, h.same hb⟩
theorem Nums.below {w w' : World} {q : IntKind} {v : Value} {zs : List Int} (h : Nums w q v zs) (hb : Below w.heap.size w w') : Nums w' q v zs := h.same hb.block

/-! Keeping. -/
theorem below_all {B : Nat} {w0 w w' : World} (h : Below B w0 w) (hB : B ≤ w.heap.size) (hk : Below w.heap.size w w') : Below B w0 w' := h.trans (hk.mono hB)
theorem own_below {w w' : World} {base : Nat} {e : TypeId} {size : Nat} {v : Value} {n : Nat} {xs : List Value} (h : w.ownsRow base e size v n xs) (hb : Below w.heap.size w w') : w'.ownsRow base e size v n xs :=
  h.kept (row := none) ⟨hb.os, hb.tape, hb.output, hb.size, fun k hk _ => hb.block k hk⟩ (by cases hv : v.ownBlock <;> simp)
theorem own_drewN {w : World} {base : Nat} {e : TypeId} {size : Nat} {v : Value} {n : Nat} {xs : List Value} (h : w.ownsRow base e size v n xs) (m : Nat) : (w.drewN m).ownsRow base e size v n xs := h
theorem own_base {w : World} {base base' : Nat} {e : TypeId} {size : Nat} {v : Value} {n : Nat} {xs : List Value} (h : w.ownsRow base e size v n xs) (hb : base' ≤ base) : w.ownsRow base' e size v n xs := by
  refine ⟨h.1, ?_⟩
  rcases h.2 with h2 | ⟨g, cap, cur, hv, hg, r⟩
  · exact .inl h2
  · exact .inr ⟨g, cap, cur, hv, Nat.le_trans hb hg, r⟩

/-! The element types' rows of the program's table. -/
structure ElemT (P : Program) (t e : TypeId) (z : Value) (size bytes : Nat) : Prop where
  und : P.underlying t = some (.slice e)
  info : ∃ i, P.info? e = some i ∧ i.zero = some z ∧ i.size = size ∧ i.bytes = bytes
  zs : z.cells.size = size
  pos : 0 < size

/-- 'out = append(out, x)' on a row of the call's own: x lies in the newest block. -/
theorem wpList_push {P : Program} {t e : TypeId} {z : Value} {size bytes : Nat} (T : ElemT P t e z size bytes) (w : World) {ops : Array Oper} {rest : List Oper} {o : Oper} {a : Act} {Q : Exit → Act → World → Prop}
    (hgd : o.guard = none) (s x : Operand) (ho : o.op = .call { callee := .builtin .append, args := #[s, x], argTypes := #[t, t] })
    (base : Nat) (v : Value) (n : Nat) (xs : List Value) (hs : a.eval s = v) (hown : w.ownsRow base e size v n xs)
    (us : List Value) (hx : a.eval x = .slice (some ⟨w.heap.size, 0, none⟩) 1 1) (hus : us.length = size) (h1 : ∀ u ∈ us, u.oneCell' = true)
    (hb : (n + 1) * bytes ≤ 140737488355328) (h63 : n + 1 ≤ maxLen) (hbase : base ≤ w.heap.size)
    (h : ∀ g c w', w'.ownsRow base e size (.slice (some ⟨g, 0, none⟩) (n + 1) c) (n + 1) (xs ++ us) → Below base w w' → w.grownBy w' v.ownBlock →
      wpList P ops Q rest (a.put o.dst (.slice (some ⟨g, 0, none⟩) (n + 1) c)) w') : wpList P ops Q (o :: rest) a (w.alloc (.cells us.toArray e)) := by
  obtain ⟨i, hi, hz0, hz1, hz2⟩ := T.info
  refine wpList_append_own (w.alloc (.cells us.toArray e)) hgd s x t ho base e i z size bytes T.und hi hz0 hz1 hz2 T.zs T.pos v n xs hs (hown.alloc _) ⟨w.heap.size, 0, none⟩ 1 1 us hx (by simpa using hus) ?_ h1 h63 hb
    (by simp; omega) ?_
  · intro j u hu
    rw [Addr.add_lit, Nat.zero_add, cell_of_row _ w.heap.size j us.toArray e (0, 0) (heap_alloc_new w _)]
    simpa using hu
  · intro v' w' hown' hg _
    obtain ⟨g, c, rfl, hbg, _⟩ := hown'.form (by omega)
    have hg' : w.grownBy w' v.ownBlock := (World.grownBy_alloc w _ _).trans hg
    exact h g c w' hown' ((Below.refl base w).grown hg' hbase fun k hk => (hown.lt k hk).1) hg'

/-- 'make([]T, n)'. -/
theorem wpList_mk {P : Program} {t e : TypeId} {z : Value} {bytes : Nat} (T : ElemT P t e z 1 bytes) (w : World) {ops : Array Oper} {rest : List Oper} {o : Oper} {a : Act} {Q : Exit → Act → World → Prop}
    (hg : o.guard = none) (l c : Operand) (hop : o.op = Op.makeSlice t l c) (hzc : z.cells = #[z])
    (n : Nat) (hl : a.eval l = .int .i64 (n : Int)) (hc : a.eval c = .int .i64 (n : Int)) (b2 : bytes * n ≤ 281474976710656) (b3 : n ≤ maxLen)
    (hK : ∀ w', w'.ownsRow w.heap.size e 1 (.slice (some ⟨w.heap.size, 0, none⟩) n n) n (List.replicate n z) → Below w.heap.size w w' →
      wpList P ops Q rest (a.put o.dst (.slice (some ⟨w.heap.size, 0, none⟩) n n)) w') : wpList P ops Q (o :: rest) a w := by
  obtain ⟨i, hi, hz0, hz1, hz2⟩ := T.info
  refine wpList_make_full w hg l c t hop w.heap.size e i z 1 T.und hi hz0 hz1 .i64 .i64 n n n hl hc rfl rfl (by rw [hz2]; exact b2) b3 (Nat.le_refl _) ?_
  intro w' hown hg'
  rw [hzc, Nat.mul_one, toList_madeCells_one] at hown
  exact hK w' hown ⟨hg'.os, hg'.tape, hg'.output, hg'.size, fun k hk => hg'.block k hk (by simp)⟩

end Go.Proofs.Ytpoeppehijhnnaa
