/- plan.list.add: one item is appended. -/
import Derived.Test.YtaccfnffmbndhaaRingR
set_option linter.unusedSimpArgs false
set_option linter.unusedVariables false
namespace Go.Proofs.Ytaccfnffmbndhaa
open Go.RowKit

/-- The cells of an item. -/
def actC : Option Acn → List Value
  | none => [.bool false, .bool false, .int .i64 0, .int .i64 0, .int .i64 0, .int .i64 0, .int .i64 0, .int .i64 0, .int .i64 0]
  | some a => acnCells a
def itCells (x : Itm) : List Value := .int .i64 (x.kind : Nat) :: .int .i64 (x.st : Nat) :: .int .i64 (x.n : Nat) :: actC x.a
def itVals (l : List Itm) : List Value := l.flatMap itCells
theorem itVals_app (l m : List Itm) : itVals (l ++ m) = itVals l ++ itVals m := by simp [itVals]
theorem itVals_snoc (l : List Itm) (a : Itm) : itVals (l ++ [a]) = itVals l ++ itCells a := by simp [itVals]
theorem et_items : ElemT Try.prog 51 95 (.agg #[.int .i64 0, .int .i64 0, .int .i64 0, .bool false, .bool false, .int .i64 0, .int .i64 0, .int .i64 0, .int .i64 0, .int .i64 0, .int .i64 0, .int .i64 0]) 12 88 := ⟨Try.underlying51, info_parts (by kernel_rfl), rfl, by decide⟩
set_option maxRecDepth 100000 in
set_option maxHeartbeats 1000000 in
theorem ladd_in (L base kd st n m : Nat) (b0 b1 : Bool) (i0 i1 i2 i3 i4 i5 i6 : Int) (v : Value) (xs : List Value) (w : World)
    (hL : w.heap[L]? = some (.cells #[.int .i64 (st : Nat), v] 75 (0, 0))) (ho : w.ownsRow base 95 12 v m xs) (hb : base ≤ w.heap.size) (hm : m ≤ 8388608) :
    Calls Try.prog 32 #[.pointer (some ⟨L, 0, none⟩), .int .i64 (kd : Nat), .int .i64 (n : Nat), .agg #[.bool b0, .bool b1, .int .i64 i0, .int .i64 i1, .int .i64 i2, .int .i64 i3, .int .i64 i4, .int .i64 i5, .int .i64 i6]] w fun e w' => e = .returned (.tuple #[]) ∧
      ∃ v', w'.heap[L]? = some (.cells #[.int .i64 (st : Nat), v'] 75 (0, 0)) ∧ w'.ownsRow base 95 12 v' (m + 1) (xs ++ [.int .i64 (kd : Nat), .int .i64 (st : Nat), .int .i64 (n : Nat), .bool b0, .bool b1, .int .i64 i0, .int .i64 i1, .int .i64 i2, .int .i64 i3, .int .i64 i4, .int .i64 i5, .int .i64 i6]) ∧ Keep (fun j => j = L ∨ v.ownBlock = some j) w w' ∧ (v'.ownBlock = v.ownBlock ∨ ∀ k, v'.ownBlock = some k → w.heap.size ≤ k) := by
  obtain ⟨W0, hW0⟩ : ∃ W0, w.alloc (.cells #[.bool b0, .bool b1, .int .i64 i0, .int .i64 i1, .int .i64 i2, .int .i64 i3, .int .i64 i4, .int .i64 i5, .int .i64 i6] 78) = W0 := ⟨_, rfl⟩
  have h0 : W0.heap[w.heap.size]? = some (.cells #[.bool b0, .bool b1, .int .i64 i0, .int .i64 i1, .int .i64 i2, .int .i64 i3, .int .i64 i4, .int .i64 i5, .int .i64 i6] 78 (0, 0)) := by rw [← hW0]; exact heap_alloc_new w _
  have hB0 : Below w.heap.size w W0 := by rw [← hW0]; exact (br w).alloc (Nat.le_refl _) _
  have hO0 := own_below ho hB0
  have nt := fun b cs t' sg (hb' : W0.heap[b]? = some (.cells cs t' sg)) (hne : t' ≠ 95) (e : v.ownBlock = some b) => block_notrow hb' hne hO0 e.symm
  have hL0 := sb hL _ hB0
  have kL := fun w' (q : Keep (fun j => v.ownBlock = some j) W0 w') => (q.block _ (lt_of_block hL0) (nt _ _ _ _ hL0 (by decide))).trans hL0
  have tL := fun w' q => bx2 (kL w' q)
  have t0 := fun w' (q : Keep (fun j => v.ownBlock = some j) W0 w') => bx9 ((q.block _ (lt_of_block h0) (nt _ _ _ _ h0 (by decide))).trans h0)
  have HL := Lib.hid kL; have HO := Lib.hid hO0; have HB0 := Lib.hid hB0; have HW0 := Lib.hid hW0
  clear hL ho hB0 hW0 h0 hL0 kL hO0 nt
  go_enter Try.func32, Try.ntmps32
  have q0 : Keep (fun j => v.ownBlock = some j) W0 W0.drew := (Keep.refl _ _).drew
  go_wp2_with fail
  rw [HW0.out]
  refine XA.g 15 (fun w' : World => Keep (fun j => v.ownBlock = some j) W0 w') ?_
  refine XA.t ?_ [0, 1, 2, 3, 4, 5, 6, 7, 8, 9, 10, 11, 12] q0 ?_
  refine XA.v 13 (W0.drew.alloc (.cells #[.int .i64 (kd : Nat), .int .i64 (st : Nat), .int .i64 (n : Nat), .bool b0, .bool b1, .int .i64 i0, .int .i64 i1, .int .i64 i2, .int .i64 i3, .int .i64 i4, .int .i64 i5, .int .i64 i6] 95)) (.slice (some ⟨W0.heap.size, 0, none⟩) 1 1) (q0.alloc _) ?_
  refine XA.o 14 (fun K' hK => ?_)
  have hO := (HO.out.drew).alloc (.cells #[.int .i64 (kd : Nat), .int .i64 (st : Nat), .int .i64 (n : Nat), .bool b0, .bool b1, .int .i64 i0, .int .i64 i1, .int .i64 i2, .int .i64 i3, .int .i64 i4, .int .i64 i5, .int .i64 i6] 95)
  have hbs := HB0.out.size
  refine step_appX et_items (.tmp 12) (.tmp 21) rfl rfl base v m _ rfl hO (some ⟨W0.heap.size, 0, none⟩) 1 1 [.int .i64 (kd : Nat), .int .i64 (st : Nat), .int .i64 (n : Nat), .bool b0, .bool b1, .int .i64 i0, .int .i64 i1, .int .i64 i2, .int .i64 i3, .int .i64 i4, .int .i64 i5, .int .i64 i6] rfl (fun k u hu => ⟨_, _, rfl, by rw [Nat.zero_add, cell_of_row _ W0.heap.size k _ 95 (0, 0) (heap_alloc_new W0.drew _)]; simpa using hu⟩) rfl (by simp [Value.oneCell']) (by omega) (by unfold maxLen; omega) (by simp; omega) ?_
  intro A5 c5 w5 ho5 hb5 hg5 hnw
  have hnw2 : (Value.slice A5 (m + 1) c5).ownBlock = v.ownBlock ∨ ∀ k, (Value.slice A5 (m + 1) c5).ownBlock = some k → w.heap.size ≤ k := by
    rcases hnw with h | h
    · exact .inl h
    · exact .inr fun k hk => by rw [h] at hk; simp at hk; omega
  have HN := Lib.hid hnw2
  clear hnw hnw2
  have q5 : Keep (fun j => v.ownBlock = some j) W0 w5 := (q0.alloc _).grown hg5 (fun k hk => .inr hk)
  refine hK.out _ _ q5 fun _ => ?_
  refine XA.e ?_
  simp only [List.drop_succ_cons, List.drop_zero]
  have hL5 := HL.out w5 q5
  have e3 := heap_setCell_same w5 L 1 _ _ (.slice A5 (m + 1) c5) hL5
  have k1 : Keep (fun j => j = L) w5 (w5.setCell ⟨L, 1, none⟩ (.slice A5 (m + 1) c5)) := Keep.setCell (S := fun j => j = L) (Keep.refl _ _) ⟨L, 1, none⟩ (.inr rfl) _
  have o6 := k1.own ho5 (fun j hj e => block_notrow hL5 (by decide) ho5 (by rw [hj, e]))
  have k6 : Keep (fun j => j = L ∨ v.ownBlock = some j) w (w5.setCell ⟨L, 1, none⟩ (.slice A5 (m + 1) c5)) := Keep.setCell (S := fun j => j = L ∨ v.ownBlock = some j) ((Keep.below HB0.out).trans (q5.mono fun k _ hk => .inr hk)) ⟨L, 1, none⟩ (.inr (.inl rfl)) _
  have E3 := Lib.hid e3; have O6 := Lib.hid o6; have K6 := Lib.hid k6
  have xL := tL w5 q5
  clear ho5 hb5 hg5 hL5 e3 k1 o6 k6 tL t0 hK K' q5 hO
  go_wp2_with fail
  go_end0
  exact ⟨rfl, _, by simpa using E3.out, O6.out, K6.out, HN.out⟩
/-- The list of items, in its box. -/
def LstAt (w : World) (L base st : Nat) (v : Value) (l : List Itm) : Prop := w.heap[L]? = some (.cells #[.int .i64 (st : Nat), v] 75 (0, 0)) ∧ w.ownsRow base 95 12 v l.length (itVals l)
/-- What appending has changed. -/
def Apd (L : Nat) (w : World) (v : Value) (w' : World) (v' : Value) : Prop := Keep (fun j => j = L ∨ v.ownBlock = some j) w w' ∧ (v'.ownBlock = v.ownBlock ∨ ∀ k, v'.ownBlock = some k → w.heap.size ≤ k)
theorem Apd.trans {L : Nat} {a b c : World} {v v' v'' : Value} (h : Apd L a v b v') (k : Apd L b v' c v'') : Apd L a v c v'' := by
  refine ⟨⟨k.1.os.trans h.1.os, k.1.tape.trans h.1.tape, k.1.output.trans h.1.output, Nat.le_trans h.1.size k.1.size, fun j hj hn => (k.1.block j (Nat.lt_of_lt_of_le hj h.1.size) fun hS => ?_).trans (h.1.block j hj hn)⟩, ?_⟩
  · rcases hS with rfl | hS
    · exact hn (.inl rfl)
    · rcases h.2 with h2 | h2
      · exact hn (.inr (h2 ▸ hS))
      · have := h2 j hS; omega
  · rcases k.2 with k2 | k2
    · rw [k2]; exact h.2
    · exact .inr fun j hj => Nat.le_trans h.1.size (k2 j hj)
theorem Apd.below {L : Nat} {b c : World} {v : Value} (h : Below b.heap.size b c) : Apd L b v c v := ⟨Keep.below h, .inl rfl⟩
theorem Apd.refl (L : Nat) (w : World) (v : Value) : Apd L w v w v := ⟨Keep.refl _ _, .inl rfl⟩
theorem LstAt.below {w w' : World} {L base st : Nat} {v : Value} {l : List Itm} (h : LstAt w L base st v l) (hb : Below w.heap.size w w') : LstAt w' L base st v l := ⟨sb h.1 _ hb, own_below h.2 hb⟩
theorem Apd.toBelow {L base st : Nat} {w w' : World} {v v' : Value} {l : List Itm} (h : Apd L w v w' v') (hl : LstAt w L base st v l) (hb : base ≤ w.heap.size) (hL : base ≤ L) : Below base w w' :=
  h.1.toBelow hb (by
    rintro j (rfl | hj)
    · exact hL
    · exact (hl.2.lt j hj).1)
/-- An item without an action, or with one. -/
theorem ladd_any (L base kd st n : Nat) (a : Option Acn) (v : Value) (l : List Itm) (w : World)
    (hl : LstAt w L base st v l) (hb : base ≤ w.heap.size) (hm : l.length ≤ 8388608) :
    Calls Try.prog 32 #[.pointer (some ⟨L, 0, none⟩), .int .i64 (kd : Nat), .int .i64 (n : Nat), .agg (actC a).toArray] w fun e w' => e = .returned (.tuple #[]) ∧
      ∃ v', LstAt w' L base st v' (l ++ [(⟨kd, st, n, a⟩ : Itm)]) ∧ Apd L w v w' v' := by
  have key : ∀ b0 b1 i0 i1 i2 i3 i4 i5 i6, actC a = [.bool b0, .bool b1, .int .i64 i0, .int .i64 i1, .int .i64 i2, .int .i64 i3, .int .i64 i4, .int .i64 i5, .int .i64 i6] → Calls Try.prog 32 #[.pointer (some ⟨L, 0, none⟩), .int .i64 (kd : Nat), .int .i64 (n : Nat), .agg (actC a).toArray] w fun e w' => e = .returned (.tuple #[]) ∧
      ∃ v', LstAt w' L base st v' (l ++ [(⟨kd, st, n, a⟩ : Itm)]) ∧ Apd L w v w' v' := by
    intro b0 b1 i0 i1 i2 i3 i4 i5 i6 e
    rw [e]
    refine (ladd_in L base kd st n l.length b0 b1 i0 i1 i2 i3 i4 i5 i6 v _ w hl.1 hl.2 hb hm).mono ?_
    rintro e' w' ⟨rfl, v', h1, h2, k, hn⟩
    refine ⟨rfl, v', ⟨h1, ?_⟩, k, hn⟩
    rw [itVals_snoc, List.length_append, itCells, e]
    exact h2
  cases a with
  | none => exact key _ _ _ _ _ _ _ _ _ rfl
  | some a => exact key _ _ _ _ _ _ _ _ _ rfl
theorem ladd_none (L base st n : Nat) (kd : Int) (kn : Nat) (hk : (kn : Int) = kd) (v : Value) (l : List Itm) (w : World) (hl : LstAt w L base st v l) (hb : base ≤ w.heap.size) (hm : l.length ≤ 8388608) :
    Calls Try.prog 32 #[.pointer (some ⟨L, 0, none⟩), .int .i64 kd, .int .i64 (n : Nat), .agg #[.bool false, .bool false, .int .i64 0, .int .i64 0, .int .i64 0, .int .i64 0, .int .i64 0, .int .i64 0, .int .i64 0]] w fun e w' => e = .returned (.tuple #[]) ∧
      ∃ v', LstAt w' L base st v' (l ++ [(⟨kn, st, n, none⟩ : Itm)]) ∧ Apd L w v w' v' := by
  subst hk
  exact ladd_any L base kn st n none v l w hl hb hm
theorem ladd_some (L base st : Nat) (kd : Int) (kn : Nat) (hk : (kn : Int) = kd) (a : Acn) (v : Value) (l : List Itm) (w : World) (hl : LstAt w L base st v l) (hb : base ≤ w.heap.size) (hm : l.length ≤ 8388608) :
    Calls Try.prog 32 #[.pointer (some ⟨L, 0, none⟩), .int .i64 kd, .int .i64 0, .agg #[.bool a.send, .bool a.add, .int .i64 (a.st : Nat), .int .i64 (a.bk : Nat), .int .i64 (a.ph : Nat), .int .i64 (a.rd : Nat), .int .i64 (a.ch : Nat), .int .i64 (a.at'.1 : Nat), .int .i64 (a.at'.2 : Nat)]] w fun e w' => e = .returned (.tuple #[]) ∧
      ∃ v', LstAt w' L base st v' (l ++ [(⟨kn, st, 0, some a⟩ : Itm)]) ∧ Apd L w v w' v' := by
  subst hk
  exact ladd_any L base kn st 0 (some a) v l w hl hb hm
end Go.Proofs.Ytaccfnffmbndhaa
