/- Words of our own for memory: a slice that reads as a list; one element more behind an owned row; worlds that keep what was there. -/
import Derived.WalkKit
import Derived.Lib.Hide
import Derived.Deep.Draws
import Derived.Deep.AppendLies
import Derived.Maps.AppendAt
import Derived.WalkSmall
set_option linter.unusedSimpArgs false
set_option linter.unusedVariables false
namespace Go.Proofs.YtpegdddffenleaaGreatDoor
open Go.RowKit

/-! Numbers in lists. -/
/-- The element at a place. -/
def nth (l : List Int) (k : Nat) : Int := l.getD k 0
theorem nth_eq (l : List Int) (k : Nat) (h : k < l.length) : nth l k = l[k] := by simp [nth, List.getD, h]
theorem take_succ_nth (l : List Int) (k : Nat) (h : k < l.length) : l.take (k + 1) = l.take k ++ [nth l k] := by
  rw [List.take_succ_eq_append_getElem h, nth_eq l k h]
theorem take_eq_succ {l1 l2 : List Int} {k : Nat} (h1 : k < l1.length) (h2 : k < l2.length) (h : l1.take k = l2.take k) (hx : nth l1 k = nth l2 k) : l1.take (k + 1) = l2.take (k + 1) := by
  rw [take_succ_nth l1 k h1, take_succ_nth l2 k h2, h, hx]
theorem eq_of_take {l1 l2 : List Int} (h : l1.length = l2.length) (ht : l1.take l1.length = l2.take l1.length) : l1 = l2 := by
  rw [List.take_length] at ht
  rw [ht, h, List.take_length]
theorem ret_int {k : IntKind} {a b : Int} (h : a = b) : Ending.returned (.int k a) = .returned (.int k b) := by rw [h]
theorem ret_bool {a b : Bool} (h : a = b) : Ending.returned (.bool a) = .returned (.bool b) := by rw [h]

/-- Numbers as values. -/
def nums (q : IntKind) (zs : List Int) : List Value := zs.map (.int q)
theorem nums_length (q : IntKind) (zs : List Int) : (nums q zs).length = zs.length := by simp [nums]
theorem nums_append (q : IntKind) (a b : List Int) : nums q (a ++ b) = nums q a ++ nums q b := by simp [nums]
theorem nums_one (q : IntKind) (a : Int) : nums q [a] = [.int q a] := rfl
theorem nums_get (q : IntKind) (zs : List Int) (k : Nat) (h : k < zs.length) : (nums q zs)[k]? = some (.int q (nth zs k)) := by
  simp [nums, nth_eq zs k h, h]
theorem nums_set (q : IntKind) (zs : List Int) (k : Nat) (a : Int) : (nums q zs).set k (.int q a) = nums q (zs.set k a) := by simp [nums, List.map_set]
theorem nums_cell (q : IntKind) (zs : List Int) : ∀ u ∈ nums q zs, u.oneCell' = true := ints_oneCell q zs
theorem nums_take (q : IntKind) (zs : List Int) (n : Nat) : (nums q zs).take n = nums q (zs.take n) := by simp [nums, List.map_take]
theorem nums_drop (q : IntKind) (zs : List Int) (n : Nat) : (nums q zs).drop n = nums q (zs.drop n) := by simp [nums, List.map_drop]
theorem nums_rep (q : IntKind) (n : Nat) (a : Int) : List.replicate n (Value.int q a) = nums q (List.replicate n a) := by simp [nums]

/-! Reading. -/
/-- The cells from A on hold xs. (A is asked for only where there is a cell.) -/
def Rd (w : World) (A : Option Addr) (xs : List Value) : Prop :=
  ∀ k u, xs[k]? = some u → ∃ b o, A = some ⟨b, o, none⟩ ∧ w.cell? ⟨b, o + k, none⟩ = some u

theorem lt_of_cell {w : World} {a : Addr} {u : Value} (h : w.cell? a = some u) : a.block < w.heap.size := World.block_lt_of_cell? w a h

theorem Rd.nil (w : World) (A : Option Addr) : Rd w A [] := fun k u h => by simp at h
theorem Rd.num {w : World} {A : Option Addr} {q : IntKind} {zs : List Int} (h : Rd w A (nums q zs)) {k : Nat} (hk : k < zs.length) :
    ∃ b o, A = some ⟨b, o, none⟩ ∧ w.cell? ⟨b, o + k, none⟩ = some (.int q (nth zs k)) := h k _ (nums_get q zs k hk)
theorem Rd.same {w w' : World} {A : Option Addr} {xs : List Value} (h : Rd w A xs) (hb : ∀ b, b < w.heap.size → w'.heap[b]? = w.heap[b]?) : Rd w' A xs := fun k u hu => by
  obtain ⟨b, o, hA, hc⟩ := h k u hu
  exact ⟨b, o, hA, (World.cell?_of_block (w := w) (hb _ (lt_of_cell hc))).trans hc⟩
theorem Rd.below {w w' : World} {A : Option Addr} {xs : List Value} (h : Rd w A xs) (hb : Below w.heap.size w w') : Rd w' A xs := h.same hb.block
theorem Rd.alloc {w : World} {A : Option Addr} {xs : List Value} (h : Rd w A xs) (o : Obj) : Rd (w.alloc o) A xs := h.same fun b hb => Below.heap_alloc w o b hb
theorem Rd.drew {w : World} {A : Option Addr} {xs : List Value} (h : Rd w A xs) : Rd w.drew A xs := h
theorem Rd.drewN {w : World} {A : Option Addr} {xs : List Value} (h : Rd w A xs) (n : Nat) : Rd (w.drewN n) A xs := h
theorem Rd.belowB {B : Nat} {w w' : World} {A : Option Addr} {xs : List Value} (h : Rd w A xs) (hb : Below B w w') (hA : ∀ a, A = some a → a.block < B) : Rd w' A xs := fun k u hu => by
  obtain ⟨b, o, hA', hc⟩ := h k u hu
  exact ⟨b, o, hA', (hb.cell (p := ⟨b, o + k, none⟩) (show b < B from hA _ hA')).trans hc⟩
theorem Rd.own {w : World} {base : Nat} {e : TypeId} {size n c : Nat} {A : Option Addr} {xs : List Value} (h : w.ownsRow base e size (.slice A n c) n xs) : Rd w A xs := fun k u hu => by
  have hk : k < xs.length := (List.getElem?_eq_some_iff.1 hu).1
  rcases h.2 with ⟨_, h0⟩ | ⟨g, cap, cur, hv, _, hg, _, _, _, htake⟩
  · have := h.1; rw [h0] at this; omega
  · simp only [Value.slice.injEq] at hv
    obtain ⟨rfl, _, rfl⟩ := hv
    refine ⟨g, 0, rfl, ?_⟩
    have h2 := h.cellAt k (by have := h.1; omega)
    rw [Nat.zero_add, h2, hu]
theorem Rd.grown {w w' : World} {row : Option Nat} {A : Option Addr} {xs : List Value} (h : Rd w A xs) (hg : w.grownBy w' row) (hA : ∀ a, A = some a → some a.block ≠ row) : Rd w' A xs := fun k u hu => by
  obtain ⟨b, o, hA', hc⟩ := h k u hu
  exact ⟨b, o, hA', hg.cell hc (show some b ≠ row from hA _ hA')⟩
theorem Rd.take {w : World} {A : Option Addr} {xs : List Value} (h : Rd w A xs) (n : Nat) : Rd w A (xs.take n) := fun k u hu => by
  rw [List.getElem?_take] at hu
  split at hu
  · exact h k u hu
  · cases hu
/-- What stands from a place on, behind an address that is that far on. -/
theorem Rd.drop {w : World} {b o : Nat} {xs : List Value} (h : Rd w (some ⟨b, o, none⟩) xs) (n : Nat) : Rd w (some ⟨b, o + n, none⟩) (xs.drop n) := fun k u hu => by
  rw [List.getElem?_drop] at hu
  obtain ⟨b', o', e, hc⟩ := h _ _ hu
  injection e with e
  injection e with e1 e2 _
  subst e1; subst e2
  exact ⟨b, o + n, rfl, by rw [Nat.add_assoc]; exact hc⟩

/-- A new block reads as it was laid. -/
theorem rd_newN (w : World) (xs : List Value) (e : TypeId) (n : Nat) (hn : w.heap.size = n) : Rd (w.alloc (.cells xs.toArray e)) (some ⟨n, 0, none⟩) xs := fun k u hu => by
  subst hn
  refine ⟨_, _, rfl, ?_⟩
  rw [Nat.zero_add, cell_of_row _ w.heap.size k xs.toArray e (0, 0) (heap_alloc_new w _)]
  simpa using hu

/-- The form of an owned value. -/
theorem own_form {w : World} {base : Nat} {e : TypeId} {size : Nat} {v : Value} {n : Nat} {xs : List Value} (h : w.ownsRow base e size v n xs) : ∃ A c, v = .slice A n c ∧ n ≤ c := by
  rcases h.2 with ⟨rfl, rfl⟩ | ⟨g, cap, cur, rfl, _, _, hc, _⟩
  · exact ⟨none, 0, rfl, Nat.le_refl _⟩
  · exact ⟨_, _, rfl, hc⟩

/-- A slice of numbers, as a value. -/
def Nums (w : World) (q : IntKind) (v : Value) (zs : List Int) : Prop := ∃ A c, v = .slice A zs.length c ∧ Rd w A (nums q zs)
theorem Nums.own {w : World} {base : Nat} {e : TypeId} {v : Value} {q : IntKind} {zs : List Int} (h : w.ownsRow base e 1 v zs.length (nums q zs)) : Nums w q v zs := by
  obtain ⟨A, c, rfl, _⟩ := own_form h
  exact ⟨A, c, rfl, Rd.own h⟩
theorem Nums.same {w w' : World} {q : IntKind} {v : Value} {zs : List Int} (h : Nums w q v zs) (hb : ∀ b, b < w.heap.size → w'.heap[b]? = w.heap[b]?) : Nums w' q v zs := by
  obtain ⟨A, c, rfl, h⟩ := h
  exact ⟨A, c, rfl, h.same hb⟩
theorem Nums.below {w w' : World} {q : IntKind} {v : Value} {zs : List Int} (h : Nums w q v zs) (hb : Below w.heap.size w w') : Nums w' q v zs := h.same hb.block

/-! Keeping. -/
theorem below_all {B : Nat} {w0 w w' : World} (h : Below B w0 w) (hB : B ≤ w.heap.size) (hk : Below w.heap.size w w') : Below B w0 w' := h.trans (hk.mono hB)
theorem own_below {w w' : World} {base : Nat} {e : TypeId} {size : Nat} {v : Value} {n : Nat} {xs : List Value} (h : w.ownsRow base e size v n xs) (hb : Below w.heap.size w w') : w'.ownsRow base e size v n xs :=
  h.kept (row := none) ⟨hb.os, hb.tape, hb.output, hb.size, fun k hk _ => hb.block k hk⟩ (by cases hv : v.ownBlock <;> simp)
theorem own_drewN {w : World} {base : Nat} {e : TypeId} {size : Nat} {v : Value} {n : Nat} {xs : List Value} (h : w.ownsRow base e size v n xs) (m : Nat) : (w.drewN m).ownsRow base e size v n xs := h
theorem own_base {w : World} {base base' : Nat} {e : TypeId} {size : Nat} {v : Value} {n : Nat} {xs : List Value} (h : w.ownsRow base e size v n xs) (hb : base' ≤ base) : w.ownsRow base' e size v n xs := by
  refine ⟨h.1, ?_⟩
  rcases h.2 with h2 | ⟨g, cap, cur, hv, hg, r⟩
  · exact .inl h2
  · exact .inr ⟨g, cap, cur, hv, Nat.le_trans hb hg, r⟩

/-- Only blocks of S may have changed, and new ones have come. -/
structure Keep (S : Nat → Prop) (w w' : World) : Prop where
  os : w'.os = w.os
  tape : w'.tape = w.tape
  output : w'.output = w.output
  size : w.heap.size ≤ w'.heap.size
  block : ∀ k, k < w.heap.size → ¬ S k → w'.heap[k]? = w.heap[k]?
theorem Keep.refl (S : Nat → Prop) (w : World) : Keep S w w := ⟨rfl, rfl, rfl, Nat.le_refl _, fun _ _ _ => rfl⟩
theorem Keep.trans {S : Nat → Prop} {a b c : World} (h : Keep S a b) (k : Keep S b c) : Keep S a c :=
  ⟨k.os.trans h.os, k.tape.trans h.tape, k.output.trans h.output, Nat.le_trans h.size k.size, fun i hi hn => (k.block i (Nat.lt_of_lt_of_le hi h.size) hn).trans (h.block i hi hn)⟩
theorem Keep.below {S : Nat → Prop} {w w' : World} (h : Below w.heap.size w w') : Keep S w w' := ⟨h.os, h.tape, h.output, h.size, fun k hk _ => h.block k hk⟩
theorem Keep.mono {S S' : Nat → Prop} {w w' : World} (h : Keep S w w') (hs : ∀ k, k < w.heap.size → S k → S' k) : Keep S' w w' := ⟨h.os, h.tape, h.output, h.size, fun k hk hn => h.block k hk fun hS => hn (hs k hk hS)⟩
theorem Keep.drewN {S : Nat → Prop} {a w : World} (h : Keep S a w) (n : Nat) : Keep S a (w.drewN n) := ⟨h.os, h.tape, h.output, h.size, h.block⟩
theorem Keep.drew {S : Nat → Prop} {a w : World} (h : Keep S a w) : Keep S a w.drew := ⟨h.os, h.tape, h.output, h.size, h.block⟩
theorem Keep.alloc {S : Nat → Prop} {a w : World} (h : Keep S a w) (o : Obj) : Keep S a (w.alloc o) := h.trans (Keep.below ((Below.refl _ w).alloc (Nat.le_refl _) o))
theorem Keep.setCell {S : Nat → Prop} {a w : World} (h : Keep S a w) (p : Addr) (hp : a.heap.size ≤ p.block ∨ S p.block) (u : Value) : Keep S a (w.setCell p u) :=
  ⟨h.os, h.tape, h.output, by simp [World.setCell]; exact h.size, fun k hk hn => (Below.heap_setCell w p u k (fun e => by subst e; rcases hp with hp | hp <;> first | omega | exact hn hp)).trans (h.block k hk hn)⟩
theorem Keep.grown {S : Nat → Prop} {a w w' : World} (h : Keep S a w) {row : Option Nat} (hg : w.grownBy w' row) (hr : ∀ k, row = some k → a.heap.size ≤ k ∨ S k) : Keep S a w' :=
  ⟨hg.os.trans h.os, hg.tape.trans h.tape, hg.output.trans h.output, Nat.le_trans h.size hg.size, fun k hk hn =>
    (hg.block k (Nat.lt_of_lt_of_le hk h.size) fun e => by
      rcases hr k e.symm with h1 | h1
      · omega
      · exact hn h1).trans (h.block k hk hn)⟩
theorem Keep.toBelow {S : Nat → Prop} {B : Nat} {w w' : World} (h : Keep S w w') (hB : B ≤ w.heap.size) (hS : ∀ k, S k → B ≤ k) : Below B w w' :=
  ⟨h.os, h.tape, h.output, h.size, fun k hk => h.block k (by omega) fun hs => by have := hS k hs; omega⟩
theorem Keep.cell {S : Nat → Prop} {w w' : World} (h : Keep S w w') {p : Addr} {u : Value} (hc : w.cell? p = some u) (hp : ¬ S p.block) : w'.cell? p = some u :=
  (World.cell?_of_block (w := w) (h.block _ (lt_of_cell hc) hp)).trans hc
theorem Keep.rd {S : Nat → Prop} {w w' : World} (h : Keep S w w') {A : Option Addr} {xs : List Value} (hr : Rd w A xs) (hA : ∀ a, A = some a → ¬ S a.block) : Rd w' A xs := fun k u hu => by
  obtain ⟨b, o, hA', hc⟩ := hr k u hu
  exact ⟨b, o, hA', h.cell hc (show ¬ S b from hA _ hA')⟩
theorem Keep.own {S : Nat → Prop} {w w' : World} (h : Keep S w w') {base : Nat} {e : TypeId} {size : Nat} {v : Value} {n : Nat} {xs : List Value} (ho : w.ownsRow base e size v n xs) (hv : ∀ k, v.ownBlock = some k → ¬ S k) : w'.ownsRow base e size v n xs := by
  refine ⟨ho.1, ?_⟩
  rcases ho.2 with h2 | ⟨g, cap, cur, rfl, hg, hgg, r⟩
  · exact .inl h2
  · exact .inr ⟨g, cap, cur, rfl, hg, (h.block g (lt_of_block hgg) (hv g rfl)).trans hgg, r⟩

/-! The element types' rows of the program's table. -/
structure ElemT (P : Program) (t e : TypeId) (z : Value) (size bytes : Nat) : Prop where
  und : P.underlying t = some (.slice e)
  info : ∃ i, P.info? e = some i ∧ i.zero = some z ∧ i.size = size ∧ i.bytes = bytes
  zs : z.cells.size = size
  pos : 0 < size

/-- 'out = append(out, x)' on a row of the call's own: x lies in the newest block. -/
theorem wpList_push {P : Program} {t e : TypeId} {z : Value} {size bytes : Nat} (T : ElemT P t e z size bytes) (w : World) {ops : Array Oper} {rest : List Oper} {o : Oper} {a : Act} {Q : Exit → Act → World → Prop}
    (hgd : o.guard = none) (s x : Operand) (ho : o.op = .call { callee := .builtin .append, args := #[s, x], argTypes := #[t, t] })
    (base : Nat) (v : Value) (n : Nat) (xs : List Value) (hs : a.eval s = v) (hown : w.ownsRow base e size v n xs)
    (us : List Value) (hx : a.eval x = .slice (some ⟨w.heap.size, 0, none⟩) 1 1) (hus : us.length = size) (h1 : ∀ u ∈ us, u.oneCell' = true)
    (hb : (n + 1) * bytes ≤ 140737488355328) (h63 : n + 1 ≤ maxLen) (hbase : base ≤ w.heap.size)
    (h : ∀ g c w', w'.ownsRow base e size (.slice (some ⟨g, 0, none⟩) (n + 1) c) (n + 1) (xs ++ us) → Below base w w' → w.grownBy w' v.ownBlock →
      wpList P ops Q rest (a.put o.dst (.slice (some ⟨g, 0, none⟩) (n + 1) c)) w') : wpList P ops Q (o :: rest) a (w.alloc (.cells us.toArray e)) := by
  obtain ⟨i, hi, hz0, hz1, hz2⟩ := T.info
  refine wpList_append_own (w.alloc (.cells us.toArray e)) hgd s x t ho base e i z size bytes T.und hi hz0 hz1 hz2 T.zs T.pos v n xs hs (hown.alloc _) ⟨w.heap.size, 0, none⟩ 1 1 us hx (by simpa using hus) ?_ h1 h63 hb
    (by simp; omega) ?_
  · intro j u hu
    rw [Addr.add_lit, Nat.zero_add, cell_of_row _ w.heap.size j us.toArray e (0, 0) (heap_alloc_new w _)]
    simpa using hu
  · intro v' w' hown' hg _
    obtain ⟨g, c, rfl, hbg, _⟩ := hown'.form (by omega)
    have hg' : w.grownBy w' v.ownBlock := (World.grownBy_alloc w _ _).trans hg
    exact h g c w' hown' ((Below.refl base w).grown hg' hbase fun k hk => (hown.lt k hk).1) hg'

/-- What is appended out of nil: nothing. -/
theorem run_append_nil_src {P : Program} {t e : TypeId} {z : Value} {size bytes : Nat} (T : ElemT P t e z size bytes) (w : World) (base : Nat) (ty : TypeId) (v : Value) (n : Nat) (xs : List Value) (hown : w.ownsRow base e size v n xs) (c : Nat) :
    (Builtin.append_ #[t, t] ty #[v, .slice none 0 c]).run P w = .ok v w := by
  obtain ⟨i, hi, _, _, _⟩ := T.info
  rcases hown.2 with ⟨rfl, rfl⟩ | ⟨g, cap, cur, rfl, _, _, hnc, _⟩
  · simp [Builtin.append_, run_underlying T.und, sizeOf, typeInfo, hi, Builtin.lenOf, Builtin.firstCells]
  · simp [Builtin.append_, run_underlying T.und, sizeOf, typeInfo, hi, Builtin.lenOf, Builtin.firstCells, hnc, storeCells]

/-- 'append(out, xs...)' on a row of the call's own, as a run. -/
theorem run_app {P : Program} {t e : TypeId} {z : Value} {size bytes : Nat} (T : ElemT P t e z size bytes) (w : World) (base : Nat) (ty : TypeId) (v : Value) (n : Nat) (xs : List Value) (hown : w.ownsRow base e size v n xs)
    (A : Option Addr) (m c : Nat) (us : List Value) (hr : Rd w A us) (hus : us.length = m * size) (h1 : ∀ u ∈ us, u.oneCell' = true)
    (hb : (n + m) * bytes ≤ 140737488355328) (h63 : n + m ≤ maxLen) (hbase : base ≤ w.heap.size) :
    ∃ v' w', (Builtin.append_ #[t, t] ty #[v, .slice A m c]).run P w = .ok v' w' ∧ w'.ownsRow base e size v' (n + m) (xs ++ us) ∧ Below base w w' ∧ w.grownBy w' v.ownBlock ∧ (v'.ownBlock = v.ownBlock ∨ v'.ownBlock = some w.heap.size) := by
  cases A with
  | none =>
    have hm : us = [] := by
      cases us with
      | nil => rfl
      | cons u l => obtain ⟨b, o, h, _⟩ := hr 0 u rfl; cases h
    subst hm
    have hm0 : m = 0 := by
      have := T.pos
      rcases Nat.eq_zero_or_pos m with h | h
      · exact h
      · have := Nat.mul_pos h this; simp at hus; omega
    subst hm0
    exact ⟨v, w, run_append_nil_src T w base ty v n xs hown c, by simpa using hown, Below.refl _ _, World.grownBy.refl _ _, .inl rfl⟩
  | some ad =>
    obtain ⟨i, hi, hz0, hz1, hz2⟩ := T.info
    have hc : ∀ j u, us[j]? = some u → w.cell? (ad.add j) = some u := fun j u hu => by
      obtain ⟨b, o, e, h⟩ := hr j u hu
      injection e with e
      subst e
      rw [Addr.add_lit]; exact h
    obtain ⟨v', w', hr, h2, h3, h4, h5⟩ := run_append_own_at (P := P) w base t ty e i z size bytes T.und hi hz0 hz1 hz2 T.zs T.pos v n xs hown ad m c us hus hc h1 h63 hb hbase
    exact ⟨v', w', hr, h2, (Below.refl base w).grown h3 hbase fun k hk => (hown.lt k hk).1, h3, h5⟩

/-- 'append(out, xs...)' on a row of the call's own, at the operation. -/
theorem wpList_app {P : Program} {t e : TypeId} {z : Value} {size bytes : Nat} (T : ElemT P t e z size bytes) (w : World) {ops : Array Oper} {rest : List Oper} {o : Oper} {a : Act} {Q : Exit → Act → World → Prop}
    (hgd : o.guard = none) (s x : Operand) (ho : o.op = .call { callee := .builtin .append, args := #[s, x], argTypes := #[t, t] })
    (base : Nat) (v : Value) (n : Nat) (xs : List Value) (hs : a.eval s = v) (hown : w.ownsRow base e size v n xs)
    (A : Option Addr) (m c : Nat) (us : List Value) (hx : a.eval x = .slice A m c) (hr : Rd w A us) (hus : us.length = m * size) (h1 : ∀ u ∈ us, u.oneCell' = true)
    (hb : (n + m) * bytes ≤ 140737488355328) (h63 : n + m ≤ maxLen) (hbase : base ≤ w.heap.size)
    (h : ∀ A' c' w', w'.ownsRow base e size (.slice A' (n + m) c') (n + m) (xs ++ us) → Below base w w' → w.grownBy w' v.ownBlock → ((Value.slice A' (n + m) c').ownBlock = v.ownBlock ∨ (Value.slice A' (n + m) c').ownBlock = some w.heap.size) → wpList P ops Q rest (a.put o.dst (.slice A' (n + m) c')) w') :
    wpList P ops Q (o :: rest) a w := by
  refine wpList_plain hgd fun K' hK' => ?_
  obtain ⟨v', w', hrun, h2, h3, h4, h5⟩ := run_app T w base o.type v n xs hown A m c us hr hus h1 hb h63 hbase
  obtain ⟨A', c', rfl, _⟩ := own_form h2
  unfold Oper.wp
  simp [execOp, ho, resolve, invoke, builtin, hs, hx, hrun, Result.andThen]
  exact hK' _ _ (h A' c' w' h2 h3 h4 h5)

/-- The same, as one step of a region that draws its order. -/
theorem step_app {P : Program} {t e : TypeId} {z : Value} {size bytes : Nat} (T : ElemT P t e z size bytes) {w : World} {ops : Array Oper} {o : Oper} {a : Act} {K : Act → World → Prop} {Q : Exit → Act → World → Prop} {E : Prop}
    (hgd : o.guard = none) (s x : Operand) (ho : o.op = .call { callee := .builtin .append, args := #[s, x], argTypes := #[t, t] })
    (base : Nat) (v : Value) (n : Nat) (xs : List Value) (hs : a.eval s = v) (hown : w.ownsRow base e size v n xs)
    (A : Option Addr) (m c : Nat) (us : List Value) (hx : a.eval x = .slice A m c) (hr : Rd w A us) (hus : us.length = m * size) (h1 : ∀ u ∈ us, u.oneCell' = true)
    (hb : (n + m) * bytes ≤ 140737488355328) (h63 : n + m ≤ maxLen) (hbase : base ≤ w.heap.size)
    (h : ∀ A' c' w', w'.ownsRow base e size (.slice A' (n + m) c') (n + m) (xs ++ us) → Below base w w' → w.grownBy w' v.ownBlock → ((Value.slice A' (n + m) c').ownBlock = v.ownBlock ∨ (Value.slice A' (n + m) c').ownBlock = some w.heap.size) → K (a.put o.dst (.slice A' (n + m) c')) w') :
    if Region.wanted o (yielded ops a.tmps) = true then Oper.wp P o a w K Q else E := by
  have hw : Region.wanted o (yielded ops a.tmps) = true := by simp [Region.wanted, hgd]
  rw [if_pos hw]
  obtain ⟨v', w', hrun, h2, h3, h4, h5⟩ := run_app T w base o.type v n xs hown A m c us hr hus h1 hb h63 hbase
  obtain ⟨A', c', rfl, _⟩ := own_form h2
  unfold Oper.wp
  simp [execOp, ho, resolve, invoke, builtin, hs, hx, hrun, Result.andThen]
  exact h A' c' w' h2 h3 h4 h5

/-- An empty row of the call's own. -/
theorem own_empty (w : World) (e : TypeId) (size : Nat) : (w.alloc (.cells #[] e)).ownsRow w.heap.size e size (.slice (some ⟨w.heap.size, 0, none⟩) 0 0) 0 [] :=
  World.ownsRow_made w #[] 0 (Nat.le_refl _) (by unfold maxLen; omega) (by simp)

/-- 'make([]T, n)'. -/
theorem wpList_mk {P : Program} {t e : TypeId} {z : Value} {bytes : Nat} (T : ElemT P t e z 1 bytes) (w : World) {ops : Array Oper} {rest : List Oper} {o : Oper} {a : Act} {Q : Exit → Act → World → Prop}
    (hg : o.guard = none) (l c : Operand) (hop : o.op = Op.makeSlice t l c) (hzc : z.cells = #[z])
    (n : Nat) (hl : a.eval l = .int .i64 (n : Int)) (hc : a.eval c = .int .i64 (n : Int)) (b2 : bytes * n ≤ 281474976710656) (b3 : n ≤ maxLen)
    (hK : ∀ w', w'.ownsRow w.heap.size e 1 (.slice (some ⟨w.heap.size, 0, none⟩) n n) n (List.replicate n z) → Below w.heap.size w w' →
      wpList P ops Q rest (a.put o.dst (.slice (some ⟨w.heap.size, 0, none⟩) n n)) w') : wpList P ops Q (o :: rest) a w := by
  obtain ⟨i, hi, hz0, hz1, hz2⟩ := T.info
  refine wpList_make_full w hg l c t hop w.heap.size e i z 1 T.und hi hz0 hz1 .i64 .i64 n n n hl hc rfl rfl (by rw [hz2]; exact b2) b3 (Nat.le_refl _) ?_
  intro w' hown hg'
  rw [hzc, Nat.mul_one, toList_madeCells_one] at hown
  exact hK w' hown ⟨hg'.os, hg'.tape, hg'.output, hg'.size, fun k hk => hg'.block k hk (by simp)⟩


/-- The cells of a block, from number i on. -/
def Cs (w : World) (b : Nat) : Nat → List Value → Prop
  | _, [] => True
  | i, v :: vs => w.cell? ⟨b, i, none⟩ = some v ∧ Cs w b (i + 1) vs
theorem cs_of (w : World) (b : Nat) (all : List Value) (hc : ∀ j, w.cell? ⟨b, j, none⟩ = all[j]?) : ∀ (vs : List Value) (i : Nat), (∀ j, vs[j]? = all[i + j]?) → Cs w b i vs
  | [], _, _ => trivial
  | v :: vs, i, h => ⟨by rw [hc]; exact (h 0).symm, cs_of w b all hc vs (i + 1) fun j => by have := h (j + 1); simpa [Nat.add_assoc, Nat.add_comm 1 j] using this⟩
/-- A block known whole: its cells, that it is there, and that it is not frozen. -/
def Bx (w : World) (b : Nat) (vs : List Value) : Prop := Cs w b 0 vs ∧ b < w.heap.size ∧ ∀ j, w.frozen? ⟨b, j, none⟩ = false
theorem bx {w : World} {b : Nat} {vs : List Value} {t : TypeId} (h : w.heap[b]? = some (.cells vs.toArray t (0, 0))) : Bx w b vs :=
  ⟨cs_of w b vs (fun j => by rw [cell_of_row w b j _ _ _ h]; simp) vs 0 (fun j => by simp), lt_of_block h, fun j => frozen_of_row w b j _ _ h⟩
/-! Blocks of so many cells. -/
theorem bx1 {w : World} {b : Nat} {t : TypeId} {v0 : Value} (h : w.heap[b]? = some (.cells #[v0] t (0, 0))) : (w.cell? ⟨b, 0, none⟩ = some v0) ∧ ∀ j, w.frozen? ⟨b, j, none⟩ = false := by
  have := bx (vs := [v0]) h; simp only [Bx, Cs, Nat.reduceAdd, and_true] at this; exact ⟨this.1, this.2.2⟩
theorem bx2 {w : World} {b : Nat} {t : TypeId} {v0 v1 : Value} (h : w.heap[b]? = some (.cells #[v0, v1] t (0, 0))) : (w.cell? ⟨b, 0, none⟩ = some v0 ∧ w.cell? ⟨b, 1, none⟩ = some v1) ∧ ∀ j, w.frozen? ⟨b, j, none⟩ = false := by
  have := bx (vs := [v0, v1]) h; simp only [Bx, Cs, Nat.reduceAdd, and_true] at this; exact ⟨this.1, this.2.2⟩
theorem bx3 {w : World} {b : Nat} {t : TypeId} {v0 v1 v2 : Value} (h : w.heap[b]? = some (.cells #[v0, v1, v2] t (0, 0))) : (w.cell? ⟨b, 0, none⟩ = some v0 ∧ w.cell? ⟨b, 1, none⟩ = some v1 ∧ w.cell? ⟨b, 2, none⟩ = some v2) ∧ ∀ j, w.frozen? ⟨b, j, none⟩ = false := by
  have := bx (vs := [v0, v1, v2]) h; simp only [Bx, Cs, Nat.reduceAdd, and_true] at this; exact ⟨this.1, this.2.2⟩
theorem bx4 {w : World} {b : Nat} {t : TypeId} {v0 v1 v2 v3 : Value} (h : w.heap[b]? = some (.cells #[v0, v1, v2, v3] t (0, 0))) : (w.cell? ⟨b, 0, none⟩ = some v0 ∧ w.cell? ⟨b, 1, none⟩ = some v1 ∧ w.cell? ⟨b, 2, none⟩ = some v2 ∧ w.cell? ⟨b, 3, none⟩ = some v3) ∧ ∀ j, w.frozen? ⟨b, j, none⟩ = false := by
  have := bx (vs := [v0, v1, v2, v3]) h; simp only [Bx, Cs, Nat.reduceAdd, and_true] at this; exact ⟨this.1, this.2.2⟩
theorem bx5 {w : World} {b : Nat} {t : TypeId} {v0 v1 v2 v3 v4 : Value} (h : w.heap[b]? = some (.cells #[v0, v1, v2, v3, v4] t (0, 0))) : (w.cell? ⟨b, 0, none⟩ = some v0 ∧ w.cell? ⟨b, 1, none⟩ = some v1 ∧ w.cell? ⟨b, 2, none⟩ = some v2 ∧ w.cell? ⟨b, 3, none⟩ = some v3 ∧ w.cell? ⟨b, 4, none⟩ = some v4) ∧ ∀ j, w.frozen? ⟨b, j, none⟩ = false := by
  have := bx (vs := [v0, v1, v2, v3, v4]) h; simp only [Bx, Cs, Nat.reduceAdd, and_true] at this; exact ⟨this.1, this.2.2⟩
theorem bx6 {w : World} {b : Nat} {t : TypeId} {v0 v1 v2 v3 v4 v5 : Value} (h : w.heap[b]? = some (.cells #[v0, v1, v2, v3, v4, v5] t (0, 0))) : (w.cell? ⟨b, 0, none⟩ = some v0 ∧ w.cell? ⟨b, 1, none⟩ = some v1 ∧ w.cell? ⟨b, 2, none⟩ = some v2 ∧ w.cell? ⟨b, 3, none⟩ = some v3 ∧ w.cell? ⟨b, 4, none⟩ = some v4 ∧ w.cell? ⟨b, 5, none⟩ = some v5) ∧ ∀ j, w.frozen? ⟨b, j, none⟩ = false := by
  have := bx (vs := [v0, v1, v2, v3, v4, v5]) h; simp only [Bx, Cs, Nat.reduceAdd, and_true] at this; exact ⟨this.1, this.2.2⟩
theorem bx7 {w : World} {b : Nat} {t : TypeId} {v0 v1 v2 v3 v4 v5 v6 : Value} (h : w.heap[b]? = some (.cells #[v0, v1, v2, v3, v4, v5, v6] t (0, 0))) : (w.cell? ⟨b, 0, none⟩ = some v0 ∧ w.cell? ⟨b, 1, none⟩ = some v1 ∧ w.cell? ⟨b, 2, none⟩ = some v2 ∧ w.cell? ⟨b, 3, none⟩ = some v3 ∧ w.cell? ⟨b, 4, none⟩ = some v4 ∧ w.cell? ⟨b, 5, none⟩ = some v5 ∧ w.cell? ⟨b, 6, none⟩ = some v6) ∧ ∀ j, w.frozen? ⟨b, j, none⟩ = false := by
  have := bx (vs := [v0, v1, v2, v3, v4, v5, v6]) h; simp only [Bx, Cs, Nat.reduceAdd, and_true] at this; exact ⟨this.1, this.2.2⟩
theorem bx8 {w : World} {b : Nat} {t : TypeId} {v0 v1 v2 v3 v4 v5 v6 v7 : Value} (h : w.heap[b]? = some (.cells #[v0, v1, v2, v3, v4, v5, v6, v7] t (0, 0))) : (w.cell? ⟨b, 0, none⟩ = some v0 ∧ w.cell? ⟨b, 1, none⟩ = some v1 ∧ w.cell? ⟨b, 2, none⟩ = some v2 ∧ w.cell? ⟨b, 3, none⟩ = some v3 ∧ w.cell? ⟨b, 4, none⟩ = some v4 ∧ w.cell? ⟨b, 5, none⟩ = some v5 ∧ w.cell? ⟨b, 6, none⟩ = some v6 ∧ w.cell? ⟨b, 7, none⟩ = some v7) ∧ ∀ j, w.frozen? ⟨b, j, none⟩ = false := by
  have := bx (vs := [v0, v1, v2, v3, v4, v5, v6, v7]) h; simp only [Bx, Cs, Nat.reduceAdd, and_true] at this; exact ⟨this.1, this.2.2⟩
theorem bx9 {w : World} {b : Nat} {t : TypeId} {v0 v1 v2 v3 v4 v5 v6 v7 v8 : Value} (h : w.heap[b]? = some (.cells #[v0, v1, v2, v3, v4, v5, v6, v7, v8] t (0, 0))) : (w.cell? ⟨b, 0, none⟩ = some v0 ∧ w.cell? ⟨b, 1, none⟩ = some v1 ∧ w.cell? ⟨b, 2, none⟩ = some v2 ∧ w.cell? ⟨b, 3, none⟩ = some v3 ∧ w.cell? ⟨b, 4, none⟩ = some v4 ∧ w.cell? ⟨b, 5, none⟩ = some v5 ∧ w.cell? ⟨b, 6, none⟩ = some v6 ∧ w.cell? ⟨b, 7, none⟩ = some v7 ∧ w.cell? ⟨b, 8, none⟩ = some v8) ∧ ∀ j, w.frozen? ⟨b, j, none⟩ = false := by
  have := bx (vs := [v0, v1, v2, v3, v4, v5, v6, v7, v8]) h; simp only [Bx, Cs, Nat.reduceAdd, and_true] at this; exact ⟨this.1, this.2.2⟩
theorem bx10 {w : World} {b : Nat} {t : TypeId} {v0 v1 v2 v3 v4 v5 v6 v7 v8 v9 : Value} (h : w.heap[b]? = some (.cells #[v0, v1, v2, v3, v4, v5, v6, v7, v8, v9] t (0, 0))) : (w.cell? ⟨b, 0, none⟩ = some v0 ∧ w.cell? ⟨b, 1, none⟩ = some v1 ∧ w.cell? ⟨b, 2, none⟩ = some v2 ∧ w.cell? ⟨b, 3, none⟩ = some v3 ∧ w.cell? ⟨b, 4, none⟩ = some v4 ∧ w.cell? ⟨b, 5, none⟩ = some v5 ∧ w.cell? ⟨b, 6, none⟩ = some v6 ∧ w.cell? ⟨b, 7, none⟩ = some v7 ∧ w.cell? ⟨b, 8, none⟩ = some v8 ∧ w.cell? ⟨b, 9, none⟩ = some v9) ∧ ∀ j, w.frozen? ⟨b, j, none⟩ = false := by
  have := bx (vs := [v0, v1, v2, v3, v4, v5, v6, v7, v8, v9]) h; simp only [Bx, Cs, Nat.reduceAdd, and_true] at this; exact ⟨this.1, this.2.2⟩
theorem bx11 {w : World} {b : Nat} {t : TypeId} {v0 v1 v2 v3 v4 v5 v6 v7 v8 v9 v10 : Value} (h : w.heap[b]? = some (.cells #[v0, v1, v2, v3, v4, v5, v6, v7, v8, v9, v10] t (0, 0))) : (w.cell? ⟨b, 0, none⟩ = some v0 ∧ w.cell? ⟨b, 1, none⟩ = some v1 ∧ w.cell? ⟨b, 2, none⟩ = some v2 ∧ w.cell? ⟨b, 3, none⟩ = some v3 ∧ w.cell? ⟨b, 4, none⟩ = some v4 ∧ w.cell? ⟨b, 5, none⟩ = some v5 ∧ w.cell? ⟨b, 6, none⟩ = some v6 ∧ w.cell? ⟨b, 7, none⟩ = some v7 ∧ w.cell? ⟨b, 8, none⟩ = some v8 ∧ w.cell? ⟨b, 9, none⟩ = some v9 ∧ w.cell? ⟨b, 10, none⟩ = some v10) ∧ ∀ j, w.frozen? ⟨b, j, none⟩ = false := by
  have := bx (vs := [v0, v1, v2, v3, v4, v5, v6, v7, v8, v9, v10]) h; simp only [Bx, Cs, Nat.reduceAdd, and_true] at this; exact ⟨this.1, this.2.2⟩
theorem bx12 {w : World} {b : Nat} {t : TypeId} {v0 v1 v2 v3 v4 v5 v6 v7 v8 v9 v10 v11 : Value} (h : w.heap[b]? = some (.cells #[v0, v1, v2, v3, v4, v5, v6, v7, v8, v9, v10, v11] t (0, 0))) : (w.cell? ⟨b, 0, none⟩ = some v0 ∧ w.cell? ⟨b, 1, none⟩ = some v1 ∧ w.cell? ⟨b, 2, none⟩ = some v2 ∧ w.cell? ⟨b, 3, none⟩ = some v3 ∧ w.cell? ⟨b, 4, none⟩ = some v4 ∧ w.cell? ⟨b, 5, none⟩ = some v5 ∧ w.cell? ⟨b, 6, none⟩ = some v6 ∧ w.cell? ⟨b, 7, none⟩ = some v7 ∧ w.cell? ⟨b, 8, none⟩ = some v8 ∧ w.cell? ⟨b, 9, none⟩ = some v9 ∧ w.cell? ⟨b, 10, none⟩ = some v10 ∧ w.cell? ⟨b, 11, none⟩ = some v11) ∧ ∀ j, w.frozen? ⟨b, j, none⟩ = false := by
  have := bx (vs := [v0, v1, v2, v3, v4, v5, v6, v7, v8, v9, v10, v11]) h; simp only [Bx, Cs, Nat.reduceAdd, and_true] at this; exact ⟨this.1, this.2.2⟩
theorem bx13 {w : World} {b : Nat} {t : TypeId} {v0 v1 v2 v3 v4 v5 v6 v7 v8 v9 v10 v11 v12 : Value} (h : w.heap[b]? = some (.cells #[v0, v1, v2, v3, v4, v5, v6, v7, v8, v9, v10, v11, v12] t (0, 0))) : (w.cell? ⟨b, 0, none⟩ = some v0 ∧ w.cell? ⟨b, 1, none⟩ = some v1 ∧ w.cell? ⟨b, 2, none⟩ = some v2 ∧ w.cell? ⟨b, 3, none⟩ = some v3 ∧ w.cell? ⟨b, 4, none⟩ = some v4 ∧ w.cell? ⟨b, 5, none⟩ = some v5 ∧ w.cell? ⟨b, 6, none⟩ = some v6 ∧ w.cell? ⟨b, 7, none⟩ = some v7 ∧ w.cell? ⟨b, 8, none⟩ = some v8 ∧ w.cell? ⟨b, 9, none⟩ = some v9 ∧ w.cell? ⟨b, 10, none⟩ = some v10 ∧ w.cell? ⟨b, 11, none⟩ = some v11 ∧ w.cell? ⟨b, 12, none⟩ = some v12) ∧ ∀ j, w.frozen? ⟨b, j, none⟩ = false := by
  have := bx (vs := [v0, v1, v2, v3, v4, v5, v6, v7, v8, v9, v10, v11, v12]) h; simp only [Bx, Cs, Nat.reduceAdd, and_true] at this; exact ⟨this.1, this.2.2⟩
theorem bx14 {w : World} {b : Nat} {t : TypeId} {v0 v1 v2 v3 v4 v5 v6 v7 v8 v9 v10 v11 v12 v13 : Value} (h : w.heap[b]? = some (.cells #[v0, v1, v2, v3, v4, v5, v6, v7, v8, v9, v10, v11, v12, v13] t (0, 0))) : (w.cell? ⟨b, 0, none⟩ = some v0 ∧ w.cell? ⟨b, 1, none⟩ = some v1 ∧ w.cell? ⟨b, 2, none⟩ = some v2 ∧ w.cell? ⟨b, 3, none⟩ = some v3 ∧ w.cell? ⟨b, 4, none⟩ = some v4 ∧ w.cell? ⟨b, 5, none⟩ = some v5 ∧ w.cell? ⟨b, 6, none⟩ = some v6 ∧ w.cell? ⟨b, 7, none⟩ = some v7 ∧ w.cell? ⟨b, 8, none⟩ = some v8 ∧ w.cell? ⟨b, 9, none⟩ = some v9 ∧ w.cell? ⟨b, 10, none⟩ = some v10 ∧ w.cell? ⟨b, 11, none⟩ = some v11 ∧ w.cell? ⟨b, 12, none⟩ = some v12 ∧ w.cell? ⟨b, 13, none⟩ = some v13) ∧ ∀ j, w.frozen? ⟨b, j, none⟩ = false := by
  have := bx (vs := [v0, v1, v2, v3, v4, v5, v6, v7, v8, v9, v10, v11, v12, v13]) h; simp only [Bx, Cs, Nat.reduceAdd, and_true] at this; exact ⟨this.1, this.2.2⟩
theorem bx15 {w : World} {b : Nat} {t : TypeId} {v0 v1 v2 v3 v4 v5 v6 v7 v8 v9 v10 v11 v12 v13 v14 : Value} (h : w.heap[b]? = some (.cells #[v0, v1, v2, v3, v4, v5, v6, v7, v8, v9, v10, v11, v12, v13, v14] t (0, 0))) : (w.cell? ⟨b, 0, none⟩ = some v0 ∧ w.cell? ⟨b, 1, none⟩ = some v1 ∧ w.cell? ⟨b, 2, none⟩ = some v2 ∧ w.cell? ⟨b, 3, none⟩ = some v3 ∧ w.cell? ⟨b, 4, none⟩ = some v4 ∧ w.cell? ⟨b, 5, none⟩ = some v5 ∧ w.cell? ⟨b, 6, none⟩ = some v6 ∧ w.cell? ⟨b, 7, none⟩ = some v7 ∧ w.cell? ⟨b, 8, none⟩ = some v8 ∧ w.cell? ⟨b, 9, none⟩ = some v9 ∧ w.cell? ⟨b, 10, none⟩ = some v10 ∧ w.cell? ⟨b, 11, none⟩ = some v11 ∧ w.cell? ⟨b, 12, none⟩ = some v12 ∧ w.cell? ⟨b, 13, none⟩ = some v13 ∧ w.cell? ⟨b, 14, none⟩ = some v14) ∧ ∀ j, w.frozen? ⟨b, j, none⟩ = false := by
  have := bx (vs := [v0, v1, v2, v3, v4, v5, v6, v7, v8, v9, v10, v11, v12, v13, v14]) h; simp only [Bx, Cs, Nat.reduceAdd, and_true] at this; exact ⟨this.1, this.2.2⟩
/-- A block stays as it is. -/
theorem sb {w : World} {b : Nat} {x : Obj} (h : w.heap[b]? = some x) : ∀ w', Below w.heap.size w w' → w'.heap[b]? = some x := fun _ q => (q.block b (lt_of_block h)).trans h
theorem sl {w : World} {b : Nat} {x : Obj} (h : w.heap[b]? = some x) : ∀ w', Below w.heap.size w w' → b < w'.heap.size := fun w' q => Nat.lt_of_lt_of_le (lt_of_block h) q.size
theorem bt {a b c : World} (h : Below a.heap.size a b) (k : Below b.heap.size b c) : Below a.heap.size a c := h.trans (k.mono h.size)
theorem br (w : World) : Below w.heap.size w w := Below.refl _ w

/-- From here on. -/
theorem bxr {w : World} {b : Nat} {vs : List Value} {t : TypeId} (h : w.heap[b]? = some (.cells vs.toArray t (0, 0))) : ∀ w', Below w.heap.size w w' → Bx w' b vs :=
  fun _ q => bx ((q.block b (lt_of_block h)).trans h)
/-- A store into a block that is known whole. -/
theorem ss {w : World} {b i : Nat} {t : TypeId} {v : Value} {cs cs' : Array Value} (h : w.heap[b]? = some (.cells cs t (0, 0))) (e : cs.setIfInBounds i v = cs' := by simp) : (w.setCell ⟨b, i, none⟩ v).heap[b]? = some (.cells cs' t (0, 0)) := by
  subst e; exact heap_setCell_same w b i cs t v h
theorem ss2 {w : World} {b i j : Nat} {t : TypeId} {v u : Value} {cs cs' : Array Value} (h : w.heap[b]? = some (.cells cs t (0, 0))) (e : (cs.setIfInBounds i v).setIfInBounds j u = cs' := by simp) : ((w.setCell ⟨b, i, none⟩ v).setCell ⟨b, j, none⟩ u).heap[b]? = some (.cells cs' t (0, 0)) := ss (ss h rfl) e
theorem ss3 {w : World} {b i j k : Nat} {t : TypeId} {v u x : Value} {cs cs' : Array Value} (h : w.heap[b]? = some (.cells cs t (0, 0))) (e : ((cs.setIfInBounds i v).setIfInBounds j u).setIfInBounds k x = cs' := by simp) : (((w.setCell ⟨b, i, none⟩ v).setCell ⟨b, j, none⟩ u).setCell ⟨b, k, none⟩ x).heap[b]? = some (.cells cs' t (0, 0)) := ss (ss2 h rfl) e
end Go.Proofs.YtpegdddffenleaaGreatDoor
