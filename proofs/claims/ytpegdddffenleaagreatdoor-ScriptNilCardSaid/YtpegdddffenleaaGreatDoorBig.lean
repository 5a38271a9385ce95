/- Whole structs, loaded and stored by rows: nothing is opened cell by cell. -/
import Derived.Test.YtpegdddffenleaaGreatDoorRgn2
import Derived.Deep.MidRow
set_option linter.unusedSimpArgs false
set_option linter.unusedVariables false
namespace Go.Proofs.YtpegdddffenleaaGreatDoor
open Go.RowKit

section
variable {P : Program}
/-- Values of a type lie in n cells. -/
structure RowTy (P : Program) (t : TypeId) (n : Nat) : Prop where
  d : ∃ d, P.underlying t = some d ∧ d.isRow = true
  s : (P.info? t).map (·.size) = some n

theorem range_block {w : World} {b : Nat} {xs : Array Value} {t : TypeId} {fr : Nat × Nat} (h : w.heap[b]? = some (.cells xs t fr)) (o : Nat) {cs : List Value} (hcs : (xs.toList.drop o).take cs.length = cs) : w.rangeAt b o cs := fun j v hv => by
  rw [cell_of_row w b (o + j) xs t fr h]
  rw [← hcs, List.getElem?_take] at hv
  split at hv
  · rw [List.getElem?_drop] at hv; simpa using hv
  · cases hv
theorem setRow_keep (w : World) (g : Nat) (cs : Array Value) : Keep (fun j => j = g) w (w.setRow g cs) := by
  refine ⟨rfl, rfl, rfl, by simp [World.setRow], fun k hk hs => ?_⟩
  simp only [World.setRow, Array.getElem?_modify]
  rw [if_neg (fun e => hs e.symm)]

/-- A load of a struct that lies at a place in a block known whole. -/
theorem wpl_load {ops : Array Oper} {rest : List Oper} {op : Oper} {a : Act} {w : World} {Q : Exit → Act → World → Prop} {ty : TypeId} {x : Operand} {b o : Nat} {xs : Array Value} {t : TypeId} {fr : Nat × Nat} (cs : Array Value)
    (hb : w.heap[b]? = some (.cells xs t fr)) (hr : RowTy P ty cs.size) (hgd : op.guard = none) (ho : op.op = .load ty x) (hx : a.eval x = .pointer (some ⟨b, o, none⟩)) (hcs : (xs.toList.drop o).take cs.toList.length = cs.toList)
    (h : wpList P ops Q rest (a.put op.dst (.agg cs)) w) : wpList P ops Q (op :: rest) a w := by
  obtain ⟨⟨d, h1, h2⟩, h3⟩ := hr
  exact wpList_load_mid hgd ty x ho b o hx cs.toList d (range_block hb o hcs) h1 h2 (by simpa using h3) (by simpa using h)
/-- A load of a struct out of a row. -/
theorem wpl_rng {ops : Array Oper} {rest : List Oper} {op : Oper} {a : Act} {w : World} {Q : Exit → Act → World → Prop} {ty : TypeId} {x : Operand} {b o : Nat} {cs : List Value}
    (hb : w.rangeAt b o cs) (hr : RowTy P ty cs.length) (hgd : op.guard = none) (ho : op.op = .load ty x) (hx : a.eval x = .pointer (some ⟨b, o, none⟩))
    (h : wpList P ops Q rest (a.put op.dst (.agg cs.toArray)) w) : wpList P ops Q (op :: rest) a w := by
  obtain ⟨⟨d, h1, h2⟩, h3⟩ := hr
  exact wpList_load_mid hgd ty x ho b o hx cs d hb h1 h2 h3 h
/-- A store of a whole struct into its block. -/
theorem wpl_store {ops : Array Oper} {rest : List Oper} {op : Oper} {a : Act} {w : World} {Q : Exit → Act → World → Prop} {ty : TypeId} {x y : Operand} {b n : Nat} {xs ys : Array Value} {t : TypeId}
    (hb : w.heap[b]? = some (.cells xs t (0, 0))) (hr : RowTy P ty n) (hgd : op.guard = none) (ho : op.op = .store ty x y) (hx : a.eval x = .pointer (some ⟨b, 0, none⟩)) (hy : a.eval y = .agg ys)
    (hn : ys.size = n) (hs : xs.size = ys.size) (h1 : ys.toList.all (·.oneCell') = true)
    (h : ∀ w', w'.heap[b]? = some (.cells ys t (0, 0)) → Keep (fun j => j = b) w w' → wpList P ops Q rest (a.put op.dst undef) w') : wpList P ops Q (op :: rest) a w := by
  refine wpList_plain hgd fun K hK => ?_
  unfold Oper.wp execOp
  simp only [ho, hx, hy, Instr.storeAt, Instr.sureAddr, Sem.run_bind, Sem.run_pure, Result.andThen_ok, run_storeVar_row w b t ty xs ys hb (by rw [hn]; exact hr.s) hs (by rw [← Array.all_toList]; exact h1)]
  exact hK _ _ (h _ (setRow_heap w b xs ys t (0, 0) hb) (setRow_keep w b ys))
/-- A result that lies in a block, and one that does not. -/
theorem res_cell {f : Func} {x : Tmp} {ty : TypeId} (h : f.results = #[.cell x ty]) {tmps : Array Value} {w : World} {b : Nat} {xs : Array Value} {t : TypeId} {fr : Nat × Nat} (hx : tmps.getD x undef = .pointer (some ⟨b, 0, none⟩))
    (hb : w.heap[b]? = some (.cells xs t fr)) (hr : RowTy P ty xs.size) : (results f tmps).run P w = .ok (.agg xs) w := by
  obtain ⟨⟨d, h1, h2⟩, h3⟩ := hr
  have := run_loadVar_mid (P := P) w b 0 ty xs.toList d (range_block hb 0 (by rw [List.drop_zero, List.take_length])) h1 h2 (by simpa using h3)
  rw [Array.toArray_toList] at this
  have hx' : tmps[x]?.getD undef = .pointer (some ⟨b, 0, none⟩) := by simpa using hx
  simp [results, h, hx', asAddr, this]
theorem res_cell_tmp {f : Func} {x y : Tmp} {ty : TypeId} (h : f.results = #[.cell x ty, .tmp y]) {tmps : Array Value} {w : World} {b : Nat} {xs : Array Value} {t : TypeId} {fr : Nat × Nat} (hx : tmps.getD x undef = .pointer (some ⟨b, 0, none⟩))
    (hb : w.heap[b]? = some (.cells xs t fr)) (hr : RowTy P ty xs.size) : (results f tmps).run P w = .ok (.tuple #[.agg xs, tmps.getD y undef]) w := by
  obtain ⟨⟨d, h1, h2⟩, h3⟩ := hr
  have := run_loadVar_mid (P := P) w b 0 ty xs.toList d (range_block hb 0 (by rw [List.drop_zero, List.take_length])) h1 h2 (by simpa using h3)
  rw [Array.toArray_toList] at this
  have hx' : tmps[x]?.getD undef = .pointer (some ⟨b, 0, none⟩) := by simpa using hx
  simp [results, h, hx', asAddr, this]
end

/-! The same where the order is drawn. -/
section
variable {P : Program} {ops : Array Oper} {Q : Exit → Act → World → Prop} {S : World → Prop} {n : Nat}
theorem yields_ld {S : World → Prop} {a : Act} {o : Oper} {ty : TypeId} {x : Operand} {b off : Nat} {xs : Array Value} {t : TypeId} {fr : Nat × Nat} (cs : Array Value) (hb : ∀ w', S w' → w'.heap[b]? = some (.cells xs t fr)) (hr : RowTy P ty cs.size)
    (hop : o.op = .load ty x) (hx : a.eval x = .pointer (some ⟨b, off, none⟩)) (hcs : (xs.toList.drop off).take cs.toList.length = cs.toList) (hg : Region.wanted o (yielded ops a.tmps) = true) : YieldsIf P ops S o (.agg cs) a := by
  obtain ⟨⟨d, h1, h2⟩, h3⟩ := hr
  have := yieldsIf_load_mid (P := P) (ops := ops) (S := S) (op := o) (a := a) hg ty x hop b off hx cs.toList d (fun w' q => range_block (hb w' q) off hcs) h1 h2 (by simpa using h3)
  simpa using this
theorem HA.ld {L : List Nat} {a : Act} {w : World} (i : Nat) (cs : Array Value) {o : Oper} {ty : TypeId} {x : Operand} {b off : Nat} {xs : Array Value} {t : TypeId} {fr : Nat × Nat} (hb : ∀ w', S w' → w'.heap[b]? = some (.cells xs t fr)) (hr : RowTy P ty cs.size) (hS : S w)
    (k : HA P ops Q S (i :: L) (a.put o.dst (.agg cs)) w)
    (ho : ops[i]? = some o := by (simp only [List.getElem?_toArray, List.getElem?_cons_succ, List.getElem?_cons_zero]; rfl)) (hop : o.op = .load ty x := by rfl) (hx : a.eval x = .pointer (some ⟨b, off, none⟩) := by rfl) (hcs : (xs.toList.drop off).take cs.toList.length = cs.toList := by rfl) (hg : Region.wanted o (yielded ops a.tmps) = true := by rfl)
    (hs : Region.noSelect ops = true := by decide +kernel) (hQ : ∀ c a w d v, Q (.panic c) (Act.put a d v) w → Q (.panic c) a w := by (intro _ _ _ d _ h; cases d <;> exact h)) (hc : takesB ops L [i] = true := by decide +kernel) : HA P ops Q S L a w :=
  HA.takes hs hQ hS [i] hc (Ys.cons ho (yields_ld cs hb hr hop hx hcs hg) Ys.nil) (by simpa using k)
theorem XA.ld {L : List Nat} {a : Act} {w : World} (i : Nat) (cs : Array Value) {o : Oper} {ty : TypeId} {x : Operand} {b off : Nat} {xs : Array Value} {t : TypeId} {fr : Nat × Nat} (hb : ∀ w', S w' → w'.heap[b]? = some (.cells xs t fr)) (hr : RowTy P ty cs.size) (hS : S w)
    (k : XA P ops Q S n (i :: L) (a.put o.dst (.agg cs)) w)
    (ho : ops[i]? = some o := by (simp only [List.getElem?_toArray, List.getElem?_cons_succ, List.getElem?_cons_zero]; rfl)) (hop : o.op = .load ty x := by rfl) (hx : a.eval x = .pointer (some ⟨b, off, none⟩) := by rfl) (hcs : (xs.toList.drop off).take cs.toList.length = cs.toList := by rfl) (hg : Region.wanted o (yielded ops a.tmps) = true := by rfl)
    (hs : Region.noSelect ops = true := by decide +kernel) (hQ : ∀ c a w d v, Q (.panic c) (Act.put a d v) w → Q (.panic c) a w := by (intro _ _ _ d _ h; cases d <;> exact h)) (hc : takesX ops n L [i] = true := by decide +kernel) : XA P ops Q S n L a w :=
  XA.takes hs hQ hS [i] hc (Ys.cons ho (yields_ld cs hb hr hop hx hcs hg) Ys.nil) (by simpa using k)
/-- A load out of a row. -/
theorem HA.lr {L : List Nat} {a : Act} {w : World} (i : Nat) {cs : List Value} {o : Oper} {ty : TypeId} {x : Operand} {b off : Nat} (hb : ∀ w', S w' → w'.rangeAt b off cs) (hr : RowTy P ty cs.length) (hS : S w)
    (k : HA P ops Q S (i :: L) (a.put o.dst (.agg cs.toArray)) w)
    (ho : ops[i]? = some o := by (simp only [List.getElem?_toArray, List.getElem?_cons_succ, List.getElem?_cons_zero]; rfl)) (hop : o.op = .load ty x := by rfl) (hx : a.eval x = .pointer (some ⟨b, off, none⟩) := by rfl) (hg : Region.wanted o (yielded ops a.tmps) = true := by rfl)
    (hs : Region.noSelect ops = true := by decide +kernel) (hQ : ∀ c a w d v, Q (.panic c) (Act.put a d v) w → Q (.panic c) a w := by (intro _ _ _ d _ h; cases d <;> exact h)) (hc : takesB ops L [i] = true := by decide +kernel) : HA P ops Q S L a w := by
  obtain ⟨⟨d, h1, h2⟩, h3⟩ := hr
  exact HA.takes hs hQ hS [i] hc (Ys.cons ho (yieldsIf_load_mid hg ty x hop b off hx cs d hb h1 h2 h3) Ys.nil) (by simpa using k)
/-- A store of a whole struct that comes up. -/
theorem HA.st {L : List Nat} {a : Act} {w : World} (i : Nat) {o : Oper} {ty : TypeId} {x y : Operand} {b m : Nat} {xs ys : Array Value} {t : TypeId} (hb : w.heap[b]? = some (.cells xs t (0, 0))) (hr : RowTy P ty m)
    (k : ∀ w', w'.heap[b]? = some (.cells ys t (0, 0)) → Keep (fun j => j = b) w w' → S w' ∧ HA P ops Q S (i :: L) (a.put o.dst undef) w')
    (ho : ops[i]? = some o := by (simp only [List.getElem?_toArray, List.getElem?_cons_succ, List.getElem?_cons_zero]; rfl)) (hop : o.op = .store ty x y := by rfl) (hx : a.eval x = .pointer (some ⟨b, 0, none⟩) := by rfl) (hy : a.eval y = .agg ys := by rfl)
    (hn : ys.size = m := by rfl) (hs : xs.size = ys.size := by rfl) (h1 : ys.toList.all (·.oneCell') = true := by rfl) (hrd : readyF ops L = [i] := by decide +kernel) (hw : Region.wanted o (yielded ops a.tmps) = true := by rfl) : HA P ops Q S L a w := by
  obtain ⟨hS, k⟩ := k _ (setRow_heap w b xs ys t (0, 0) hb) (setRow_keep w b ys)
  refine HA.s i _ hS k ho hrd hw ?_
  unfold execOp
  simp only [hop, hx, hy, Instr.storeAt, Instr.sureAddr, Sem.run_bind, Sem.run_pure, Result.andThen_ok, run_storeVar_row w b t ty xs ys hb (by rw [hn]; exact hr.s) hs (by rw [← Array.all_toList]; exact h1)]
end
end Go.Proofs.YtpegdddffenleaaGreatDoor
