/- Loops over iterators: what serves each of them. -/
import Derived.Test.YtaccfnffmbndhaaBlk
import Derived.Maps.AppendAt
import Derived.RangeFuncNested
import Derived.RangeFuncBound
import Derived.RangeFuncCalls
import Derived.RangeFuncLeaves
import Derived.RangeFuncBox
import Derived.Shelf.Abstract
import Derived.WalkKit
import Derived.OwnWalkIn
import Derived.TacticsInMore
import Derived.LoopNIn
import Derived.LoopIn
set_option linter.unusedSimpArgs false
set_option linter.unusedVariables false
namespace Go.Proofs.Ytaccfnffmbndhaa
open Go.RowKit Go.Shelf

theorem grown_none {w w' : World} (h : Below w.heap.size w w') : w.grownBy w' none := ⟨h.os, h.tape, h.output, h.size, fun k hk _ => h.block k hk⟩
/-- 'A block holds this', between two rounds. -/
theorem ownFrom_block {β : Type} (B b : Nat) (o : Obj) (ho : o.isCells = true) : OwnFrom B (fun (_ : β) W => W.heap[b]? = some o) := fun _ W W' row hs hg hr =>
  (hg.block b (lt_of_block hs) fun e => by
    obtain ⟨o', h, hc⟩ := (hr b e.symm).2
    rw [hs] at h
    cases h
    rw [ho] at hc
    cases hc).trans hs

/-- 'out = append(out, x)' in a round, out in a box. -/
theorem wpListIn_push {F : Fence} {m : Nat} {P : Program} {t e : TypeId} {z : Value} {size bytes : Nat} (T : ElemT P t e z size bytes) (W : World) {ops : Array Oper} {rest : List Oper} {o : Oper} {a : Act} {Q : Exit → Act → World → Prop}
    (hgd : o.guard = none) (s x : Operand) (ho : o.op = .call { callee := .builtin .append, args := #[s, x], argTypes := #[t, t] })
    (n₀ B : Nat) (v : Value) (n : Nat) (xs : List Value) (hs : a.eval s = v) (hbx : Boxed W B t v) (hte : t ≠ e) (hown : W.ownsRow n₀ e size v n xs)
    (us : List Value) (hx : a.eval x = .slice (some ⟨W.heap.size, 0, none⟩) 1 1) (hus : us.length = size) (h1 : ∀ u ∈ us, u.oneCell' = true)
    (hb : (n + 1) * bytes ≤ 140737488355328) (h63 : n + 1 ≤ maxLen) (hbase : n₀ ≤ W.heap.size) (hB : n₀ ≤ B)
    (h : ∀ g c w1, Boxed w1 B t v → Boxed (w1.setCell ⟨B, 0, none⟩ (.slice (some ⟨g, 0, none⟩) (n + 1) c)) B t (.slice (some ⟨g, 0, none⟩) (n + 1) c) →
      (w1.setCell ⟨B, 0, none⟩ (.slice (some ⟨g, 0, none⟩) (n + 1) c)).ownsRow n₀ e size (.slice (some ⟨g, 0, none⟩) (n + 1) c) (n + 1) (xs ++ us) →
      KeepsOthers W (w1.setCell ⟨B, 0, none⟩ (.slice (some ⟨g, 0, none⟩) (n + 1) c)) → Below n₀ W (w1.setCell ⟨B, 0, none⟩ (.slice (some ⟨g, 0, none⟩) (n + 1) c)) →
      (∀ b cs t' sg, b ≠ B → t' ≠ e → W.heap[b]? = some (.cells cs t' sg) → (w1.setCell ⟨B, 0, none⟩ (.slice (some ⟨g, 0, none⟩) (n + 1) c)).heap[b]? = some (.cells cs t' sg)) →
      wpListIn F m P ops Q rest (a.put o.dst (.slice (some ⟨g, 0, none⟩) (n + 1) c)) w1) : wpListIn F m P ops Q (o :: rest) a (W.alloc (.cells us.toArray e)) := by
  obtain ⟨i, hi, hz0, hz1, hz2⟩ := T.info
  refine wpListIn_append_own (W.alloc (.cells us.toArray e)) hgd s x t ho n₀ e i z size bytes T.und hi hz0 hz1 hz2 T.zs T.pos v n xs hs (hown.alloc _) ⟨W.heap.size, 0, none⟩ 1 1 us hx (by simpa using hus) ?_ h1 h63 hb
    (by simp; omega) ?_
  · intro j u hu
    rw [Addr.add_lit, Nat.zero_add, cell_of_row _ W.heap.size j us.toArray e (0, 0) (heap_alloc_new W _)]
    simpa using hu
  · intro v' w1 hown' hg _
    obtain ⟨g, c, rfl⟩ := ownsRow_succ hown'
    obtain ⟨k1, k2, k3, k4, k5⟩ := hbx.appended hte hown hbase hB hown' hg
    refine h g c w1 k1 k2 k3 k4 k5 fun b cs t' sg hbB hte' hbk => ?_
    have h0 : (W.alloc (.cells us.toArray e)).heap[b]? = some (.cells cs t' sg) := (Below.heap_alloc W _ b (lt_of_block hbk)).trans hbk
    have h1 : w1.heap[b]? = some (.cells cs t' sg) := (hg.block b (lt_of_block h0) (block_notrow h0 hte' (hown.alloc _))).trans h0
    exact (Below.heap_setCell w1 _ _ b (fun e => hbB e)).trans h1

/-- A row of one's own behind a turn of a block that is no cells. -/
theorem own_turn {W W' : World} {B base : Nat} {e : TypeId} {size n : Nat} {v : Value} {xs : List Value} {row : Option Nat} (h : W.ownsRow base e size v n xs) (hg : W.grownBy W' row) (hr : ∀ r, row = some r → B ≤ r ∧ ∃ o : Obj, W.heap[r]? = some o ∧ o.isCells = false) : W'.ownsRow base e size v n xs := by
  refine h.kept hg ?_
  rcases h.2 with ⟨rfl, _⟩ | ⟨g, cap, cur, rfl, _, hgb, _⟩
  · exact .inl rfl
  · refine .inr fun e' => ?_
    obtain ⟨o, ho, hc⟩ := (hr g (by simpa [Value.ownBlock] using e'.symm)).2
    rw [hgb] at ho; cases ho; cases hc
theorem block_turn {W W' : World} {B b : Nat} {o : Obj} (ho : o.isCells = true) {row : Option Nat} (h : W.heap[b]? = some o) (hg : W.grownBy W' row) (hr : ∀ r, row = some r → B ≤ r ∧ ∃ o : Obj, W.heap[r]? = some o ∧ o.isCells = false) : W'.heap[b]? = some o :=
  (hg.block b (lt_of_block h) fun e => by
    obtain ⟨o', h', hc⟩ := (hr b e.symm).2
    rw [h] at h'
    cases h'
    rw [ho] at hc
    cases hc).trans h
/-- Where only one block may have changed, and it holds cells, the others are kept. -/
theorem others_keep {S : Nat → Prop} {W W' : World} (h : Keep S W W') (hS : ∀ k o, S k → W.heap[k]? = some o → o.isCells = true) : KeepsOthers W W' :=
  ⟨h.size, fun k o hk ho => (h.block k (lt_of_block hk) fun hs => by rw [hS k o hs hk] at ho; cases ho).trans hk⟩

/-- 'make([]T, n)', inside a fence. -/
theorem wpListIn_mk {F : Fence} {m : Nat} {P : Program} {t e : TypeId} {z : Value} {bytes : Nat} (T : ElemT P t e z 1 bytes) (w : World) {ops : Array Oper} {rest : List Oper} {o : Oper} {a : Act} {Q : Exit → Act → World → Prop}
    (hg : o.guard = none) (l c : Operand) (hop : o.op = Op.makeSlice t l c) (hzc : z.cells = #[z])
    (n : Nat) (hl : a.eval l = .int .i64 (n : Int)) (hc : a.eval c = .int .i64 (n : Int)) (b2 : bytes * n ≤ 281474976710656) (b3 : n ≤ maxLen)
    (hK : ∀ w', w'.ownsRow w.heap.size e 1 (.slice (some ⟨w.heap.size, 0, none⟩) n n) n (List.replicate n z) → Below w.heap.size w w' →
      wpListIn F m P ops Q rest (a.put o.dst (.slice (some ⟨w.heap.size, 0, none⟩) n n)) w') : wpListIn F m P ops Q (o :: rest) a w := by
  obtain ⟨i, hi, hz0, hz1, hz2⟩ := T.info
  refine wpListIn_plain hg fun K hK' => ?_
  obtain ⟨w', hrun, r1, r2⟩ := run_make_full (P := P) w w.heap.size t e i z 1 T.und hi hz0 hz1 .i64 .i64 n (by rw [hz2]; exact b2) b3 (Nat.le_refl _)
  rw [hzc, Nat.mul_one, toList_madeCells_one] at r1
  unfold Oper.wpIn
  refine ⟨by simp [Oper.about, hop], ?_⟩
  rw [Oper.semAt_plain F _ _ (by rw [hop]; intro c hc'; cases hc')]
  simp [execOp, hop, hl, hc, hrun, Result.andThen]
  exact hK' _ _ (hK w' r1 ⟨r2.os, r2.tape, r2.output, r2.size, fun k hk => r2.block k hk (by simp)⟩)
end Go.Proofs.Ytaccfnffmbndhaa
