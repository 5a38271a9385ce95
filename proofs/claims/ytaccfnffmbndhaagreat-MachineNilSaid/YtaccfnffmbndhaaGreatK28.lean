/- Whole structs, loaded and stored by rows: nothing is opened cell by cell. The reference's New of a wrong input. All items of a run, and which buckets are open after some of them. sakiaref03: Differ, Same. The reference's states: Same, Start. No condition. -/
import Derived.Test.YtaccfnffmbndhaaGreatK19
import Derived.Deep.MidRow
import Derived.Test.YtaccfnffmbndhaaGreatK27
import Derived.Test.YtaccfnffmbndhaaGreatK17
import Derived.Test.YtaccfnffmbndhaaGreatProg
import Derived.Test.YtaccfnffmbndhaaGreatK01
import Derived.BigQuiet
import Derived.Deep.QuietTactic
import Derived.Test.YtaccfnffmbndhaaGreatK16
set_option linter.unusedSimpArgs false
set_option linter.unusedVariables false
namespace Go.Proofs.YtaccfnffmbndhaaGreat
open Go.RowKit
section
variable {P : Program}
structure RowTy (P : Program) (t : TypeId) (n : Nat) : Prop where
  d : ∃ d, P.underlying t = some d ∧ d.isRow = true
  s : (P.info? t).map (·.size) = some n
theorem range_block {w : World} {b : Nat} {xs : Array Value} {t : TypeId} {fr : Nat × Nat} (h : w.heap[b]? = some (.cells xs t fr)) (o : Nat) {cs : List Value} (hcs : (xs.toList.drop o).take cs.length = cs) : w.rangeAt b o cs := fun j v hv => by
  rw [cell_of_row w b (o + j) xs t fr h]
  rw [← hcs, List.getElem?_take] at hv
  split at hv
  · rw [List.getElem?_drop] at hv; simpa using hv
  · cases hv
theorem setRow_keep (w : World) (g : Nat) (cs : Array Value) : Keep (fun j => j = g) w (w.setRow g cs) := by
  refine ⟨rfl, rfl, rfl, by simp [World.setRow], fun k hk hs => ?_⟩
  simp only [World.setRow, Array.getElem?_modify]
  rw [if_neg (fun e => hs e.symm)]
theorem wpl_load {ops : Array Oper} {rest : List Oper} {op : Oper} {a : Act} {w : World} {Q : Exit → Act → World → Prop} {ty : TypeId} {x : Operand} {b o : Nat} {xs : Array Value} {t : TypeId} {fr : Nat × Nat} (cs : Array Value)
    (hb : w.heap[b]? = some (.cells xs t fr)) (hr : RowTy P ty cs.size) (hgd : op.guard = none) (ho : op.op = .load ty x) (hx : a.eval x = .pointer (some ⟨b, o, none⟩)) (hcs : (xs.toList.drop o).take cs.toList.length = cs.toList)
    (h : wpList P ops Q rest (a.put op.dst (.agg cs)) w) : wpList P ops Q (op :: rest) a w := by
  obtain ⟨⟨d, h1, h2⟩, h3⟩ := hr
  exact wpList_load_mid hgd ty x ho b o hx cs.toList d (range_block hb o hcs) h1 h2 (by simpa using h3) (by simpa using h)
theorem wpl_rng {ops : Array Oper} {rest : List Oper} {op : Oper} {a : Act} {w : World} {Q : Exit → Act → World → Prop} {ty : TypeId} {x : Operand} {b o : Nat} {cs : List Value}
    (hb : w.rangeAt b o cs) (hr : RowTy P ty cs.length) (hgd : op.guard = none) (ho : op.op = .load ty x) (hx : a.eval x = .pointer (some ⟨b, o, none⟩))
    (h : wpList P ops Q rest (a.put op.dst (.agg cs.toArray)) w) : wpList P ops Q (op :: rest) a w := by
  obtain ⟨⟨d, h1, h2⟩, h3⟩ := hr
  exact wpList_load_mid hgd ty x ho b o hx cs d hb h1 h2 h3 h
theorem wpl_store {ops : Array Oper} {rest : List Oper} {op : Oper} {a : Act} {w : World} {Q : Exit → Act → World → Prop} {ty : TypeId} {x y : Operand} {b n : Nat} {xs ys : Array Value} {t : TypeId}
    (hb : w.heap[b]? = some (.cells xs t (0, 0))) (hr : RowTy P ty n) (hgd : op.guard = none) (ho : op.op = .store ty x y) (hx : a.eval x = .pointer (some ⟨b, 0, none⟩)) (hy : a.eval y = .agg ys)
    (hn : ys.size = n) (hs : xs.size = ys.size) (h1 : ys.toList.all (·.oneCell') = true)
    (h : ∀ w', w'.heap[b]? = some (.cells ys t (0, 0)) → Keep (fun j => j = b) w w' → wpList P ops Q rest (a.put op.dst undef) w') : wpList P ops Q (op :: rest) a w := by
  refine wpList_plain hgd fun K hK => ?_
  unfold Oper.wp execOp
  simp only [ho, hx, hy, Instr.storeAt, Instr.sureAddr, Sem.run_bind, Sem.run_pure, Result.andThen_ok, run_storeVar_row w b t ty xs ys hb (by rw [hn]; exact hr.s) hs (by rw [← Array.all_toList]; exact h1)]
  exact hK _ _ (h _ (setRow_heap w b xs ys t (0, 0) hb) (setRow_keep w b ys))
theorem res_cell {f : Func} {x : Tmp} {ty : TypeId} (h : f.results = #[.cell x ty]) {tmps : Array Value} {w : World} {b : Nat} {xs : Array Value} {t : TypeId} {fr : Nat × Nat} (hx : tmps.getD x undef = .pointer (some ⟨b, 0, none⟩))
    (hb : w.heap[b]? = some (.cells xs t fr)) (hr : RowTy P ty xs.size) : (results f tmps).run P w = .ok (.agg xs) w := by
  obtain ⟨⟨d, h1, h2⟩, h3⟩ := hr
  have := run_loadVar_mid (P := P) w b 0 ty xs.toList d (range_block hb 0 (by rw [List.drop_zero, List.take_length])) h1 h2 (by simpa using h3)
  rw [Array.toArray_toList] at this
  have hx' : tmps[x]?.getD undef = .pointer (some ⟨b, 0, none⟩) := by simpa using hx
  simp [results, h, hx', asAddr, this]
theorem res_cell_tmp {f : Func} {x y : Tmp} {ty : TypeId} (h : f.results = #[.cell x ty, .tmp y]) {tmps : Array Value} {w : World} {b : Nat} {xs : Array Value} {t : TypeId} {fr : Nat × Nat} (hx : tmps.getD x undef = .pointer (some ⟨b, 0, none⟩))
    (hb : w.heap[b]? = some (.cells xs t fr)) (hr : RowTy P ty xs.size) : (results f tmps).run P w = .ok (.tuple #[.agg xs, tmps.getD y undef]) w := by
  obtain ⟨⟨d, h1, h2⟩, h3⟩ := hr
  have := run_loadVar_mid (P := P) w b 0 ty xs.toList d (range_block hb 0 (by rw [List.drop_zero, List.take_length])) h1 h2 (by simpa using h3)
  rw [Array.toArray_toList] at this
  have hx' : tmps[x]?.getD undef = .pointer (some ⟨b, 0, none⟩) := by simpa using hx
  simp [results, h, hx', asAddr, this]
end
section
variable {P : Program} {ops : Array Oper} {Q : Exit → Act → World → Prop} {S : World → Prop} {n : Nat}
theorem yields_ld {S : World → Prop} {a : Act} {o : Oper} {ty : TypeId} {x : Operand} {b off : Nat} {xs : Array Value} {t : TypeId} {fr : Nat × Nat} (cs : Array Value) (hb : ∀ w', S w' → w'.heap[b]? = some (.cells xs t fr)) (hr : RowTy P ty cs.size)
    (hop : o.op = .load ty x) (hx : a.eval x = .pointer (some ⟨b, off, none⟩)) (hcs : (xs.toList.drop off).take cs.toList.length = cs.toList) (hg : Region.wanted o (yielded ops a.tmps) = true) : YieldsIf P ops S o (.agg cs) a := by
  obtain ⟨⟨d, h1, h2⟩, h3⟩ := hr
  have := yieldsIf_load_mid (P := P) (ops := ops) (S := S) (op := o) (a := a) hg ty x hop b off hx cs.toList d (fun w' q => range_block (hb w' q) off hcs) h1 h2 (by simpa using h3)
  simpa using this
theorem HA.ld {L : List Nat} {a : Act} {w : World} (i : Nat) (cs : Array Value) {o : Oper} {ty : TypeId} {x : Operand} {b off : Nat} {xs : Array Value} {t : TypeId} {fr : Nat × Nat} (hb : ∀ w', S w' → w'.heap[b]? = some (.cells xs t fr)) (hr : RowTy P ty cs.size) (hS : S w)
    (k : HA P ops Q S (i :: L) (a.put o.dst (.agg cs)) w)
    (ho : ops[i]? = some o := by (simp only [List.getElem?_toArray, List.getElem?_cons_succ, List.getElem?_cons_zero]; rfl)) (hop : o.op = .load ty x := by rfl) (hx : a.eval x = .pointer (some ⟨b, off, none⟩) := by rfl) (hcs : (xs.toList.drop off).take cs.toList.length = cs.toList := by rfl) (hg : Region.wanted o (yielded ops a.tmps) = true := by rfl)
    (hs : Region.noSelect ops = true := by decide +kernel) (hQ : ∀ c a w d v, Q (.panic c) (Act.put a d v) w → Q (.panic c) a w := by (intro _ _ _ d _ h; cases d <;> exact h)) (hc : takesB ops L [i] = true := by decide +kernel) : HA P ops Q S L a w :=
  HA.takes hs hQ hS [i] hc (Ys.cons ho (yields_ld cs hb hr hop hx hcs hg) Ys.nil) (by simpa using k)
theorem XA.ld {L : List Nat} {a : Act} {w : World} (i : Nat) (cs : Array Value) {o : Oper} {ty : TypeId} {x : Operand} {b off : Nat} {xs : Array Value} {t : TypeId} {fr : Nat × Nat} (hb : ∀ w', S w' → w'.heap[b]? = some (.cells xs t fr)) (hr : RowTy P ty cs.size) (hS : S w)
    (k : XA P ops Q S n (i :: L) (a.put o.dst (.agg cs)) w)
    (ho : ops[i]? = some o := by (simp only [List.getElem?_toArray, List.getElem?_cons_succ, List.getElem?_cons_zero]; rfl)) (hop : o.op = .load ty x := by rfl) (hx : a.eval x = .pointer (some ⟨b, off, none⟩) := by rfl) (hcs : (xs.toList.drop off).take cs.toList.length = cs.toList := by rfl) (hg : Region.wanted o (yielded ops a.tmps) = true := by rfl)
    (hs : Region.noSelect ops = true := by decide +kernel) (hQ : ∀ c a w d v, Q (.panic c) (Act.put a d v) w → Q (.panic c) a w := by (intro _ _ _ d _ h; cases d <;> exact h)) (hc : takesX ops n L [i] = true := by decide +kernel) : XA P ops Q S n L a w :=
  XA.takes hs hQ hS [i] hc (Ys.cons ho (yields_ld cs hb hr hop hx hcs hg) Ys.nil) (by simpa using k)
theorem HA.lr {L : List Nat} {a : Act} {w : World} (i : Nat) {cs : List Value} {o : Oper} {ty : TypeId} {x : Operand} {b off : Nat} (hb : ∀ w', S w' → w'.rangeAt b off cs) (hr : RowTy P ty cs.length) (hS : S w)
    (k : HA P ops Q S (i :: L) (a.put o.dst (.agg cs.toArray)) w)
    (ho : ops[i]? = some o := by (simp only [List.getElem?_toArray, List.getElem?_cons_succ, List.getElem?_cons_zero]; rfl)) (hop : o.op = .load ty x := by rfl) (hx : a.eval x = .pointer (some ⟨b, off, none⟩) := by rfl) (hg : Region.wanted o (yielded ops a.tmps) = true := by rfl)
    (hs : Region.noSelect ops = true := by decide +kernel) (hQ : ∀ c a w d v, Q (.panic c) (Act.put a d v) w → Q (.panic c) a w := by (intro _ _ _ d _ h; cases d <;> exact h)) (hc : takesB ops L [i] = true := by decide +kernel) : HA P ops Q S L a w := by
  obtain ⟨⟨d, h1, h2⟩, h3⟩ := hr
  exact HA.takes hs hQ hS [i] hc (Ys.cons ho (yieldsIf_load_mid hg ty x hop b off hx cs d hb h1 h2 h3) Ys.nil) (by simpa using k)
theorem HA.st {L : List Nat} {a : Act} {w : World} (i : Nat) {o : Oper} {ty : TypeId} {x y : Operand} {b m : Nat} {xs ys : Array Value} {t : TypeId} (hb : w.heap[b]? = some (.cells xs t (0, 0))) (hr : RowTy P ty m)
    (k : ∀ w', w'.heap[b]? = some (.cells ys t (0, 0)) → Keep (fun j => j = b) w w' → S w' ∧ HA P ops Q S (i :: L) (a.put o.dst undef) w')
    (ho : ops[i]? = some o := by (simp only [List.getElem?_toArray, List.getElem?_cons_succ, List.getElem?_cons_zero]; rfl)) (hop : o.op = .store ty x y := by rfl) (hx : a.eval x = .pointer (some ⟨b, 0, none⟩) := by rfl) (hy : a.eval y = .agg ys := by rfl)
    (hn : ys.size = m := by rfl) (hs : xs.size = ys.size := by rfl) (h1 : ys.toList.all (·.oneCell') = true := by rfl) (hrd : readyF ops L = [i] := by decide +kernel) (hw : Region.wanted o (yielded ops a.tmps) = true := by rfl) : HA P ops Q S L a w := by
  obtain ⟨hS, k⟩ := k _ (setRow_heap w b xs ys t (0, 0) hb) (setRow_keep w b ys)
  refine HA.s i _ hS k ho hrd hw ?_
  unfold execOp
  simp only [hop, hx, hy, Instr.storeAt, Instr.sureAddr, Sem.run_bind, Sem.run_pure, Result.andThen_ok, run_storeVar_row w b t ty xs ys hb (by rw [hn]; exact hr.s) hs (by rw [← Array.all_toList]; exact h1)]
end
end Go.Proofs.YtaccfnffmbndhaaGreat
namespace Go.Proofs.YtaccfnffmbndhaaGreat
open Go.RowKit
theorem rt_inp : RowTy Tryz.prog 29 15 := ⟨⟨_, Tryz.underlying29, rfl⟩, by kernel_rfl⟩
theorem rt_rm : RowTy Tryz.prog 43 22 := ⟨⟨_, Tryz.underlying43, rfl⟩, by kernel_rfl⟩
theorem rm_boxes (w : World) (X Z : Array Value) (t u : TypeId) : ∃ W0 W1, w.alloc (.cells X t) = W0 ∧ W0.alloc (.cells Z u) = W1 ∧ W1.heap[w.heap.size]? = some (.cells X t (0, 0)) ∧ W1.heap[w.heap.size + 1]? = some (.cells Z u (0, 0)) ∧ Below w.heap.size w W1 ∧ W1.heap.size = w.heap.size + 1 + 1 := by
  refine ⟨_, _, rfl, rfl, ?_, ?_, ?_, ?_⟩
  · exact sb (heap_alloc_new w _) _ ((br _).alloc (Nat.le_refl _) _)
  · have := heap_alloc_new (w.alloc (.cells X t)) (.cells Z u)
    rwa [show (w.alloc (.cells X t)).heap.size = w.heap.size + 1 from Array.size_push _] at this
  · exact ((br w).alloc (Nat.le_refl _) _).alloc (by simp) _
  · simp
set_option maxRecDepth 100000 in
set_option maxHeartbeats 2000000 in
theorem rmnew_bad (A : Option Addr) (c : Nat) (D : Option Addr) (cd : Nat) (T : Option Addr) (ct : Nat) (R : Option Addr) (cr : Nat) (i : Inp) (z : Int) (w : World) (h : InpRd w A c D T ct R i) (hc : inCode i ≠ 0) :
    Calls Tryz.prog 13 #[.agg (inpVals A c D cd T ct R cr i), .int .i64 z] w fun e w' => e = .returned (.tuple #[.agg #[.slice none 0 0, .int .i64 0, .int .i64 0, .int .i64 0, .int .i64 0, .int .i64 0, .int .i64 0, .int .i64 0, .int .i64 0, .int .i64 0, .int .i64 0, .int .i64 0, .slice none 0 0, .slice none 0 0, .slice none 0 0, .int .i64 0, .slice none 0 0, .slice none 0 0, .slice none 0 0, .slice none 0 0, .slice none 0 0, .int .i64 0], .int .i64 (inCode i)]) ∧ Below w.heap.size w w' := by
  obtain ⟨W0, W1, hW0, hW1, g0, g1, k1, _⟩ := rm_boxes w (inpVals A c D cd T ct R cr i) #[.slice none 0 0, .int .i64 0, .int .i64 0, .int .i64 0, .int .i64 0, .int .i64 0, .int .i64 0, .int .i64 0, .int .i64 0, .int .i64 0, .int .i64 0, .int .i64 0, .slice none 0 0, .slice none 0 0, .slice none 0 0, .int .i64 0, .slice none 0 0, .slice none 0 0, .slice none 0 0, .slice none 0 0, .slice none 0 0, .int .i64 0] 29 43
  have hi0 := rinput_any A c D cd T ct R cr i W1 (h.below k1)
  obtain ⟨C, hC⟩ : ∃ C, inCode i = C := ⟨_, rfl⟩
  rw [hC] at hi0 hc ⊢
  have HW0 := Lib.hid hW0; have HW1 := Lib.hid hW1; have Hi0 := Lib.hid hi0; have G0 := Lib.hid g0; have G1 := Lib.hid g1; have K1 := Lib.hid k1
  clear hW0 hW1 g0 g1 hi0 h hC k1
  go_enter Tryz.func13, Tryz.ntmps13
  go_wp2_with (refine wpl_load (b := w.heap.size) (inpVals A c D cd T ct R cr i) (by rw [HW0.out, HW1.out]; exact G0.out) rt_inp rfl rfl rfl rfl ?_)
  rw [HW0.out, HW1.out]
  refine Hi0.out.mono ?_
  rintro e w1 ⟨rfl, k2⟩
  have G2 := Lib.hid (sb G1.out w1 k2); have K2 := Lib.hid (K1.out.trans (k2.mono K1.out.size))
  clear k2
  go_wp2_with (refine wpl_store G2.out rt_rm rfl rfl rfl rfl rfl rfl rfl ?_; intro w9 e9 k9; have E9 := Lib.hid e9; have K9 := Lib.hid k9; clear e9 k9)
  exact bodyPost_ret (res_cell_tmp rfl rfl E9.out rt_rm) rfl ⟨rfl, K2.out.trans (K9.out.toBelow K2.out.size (fun j hj => by rw [hj]; exact Nat.le_succ _))⟩
set_option maxRecDepth 100000 in
set_option maxHeartbeats 2000000 in
theorem rmnew_off (A : Option Addr) (c : Nat) (D : Option Addr) (cd : Nat) (T : Option Addr) (ct : Nat) (R : Option Addr) (cr : Nat) (i : Inp) (z : Int) (w : World) (h : InpRd w A c D T ct R i) (hc : inCode i = 0) (hz : z < 0 ∨ i.cfg.workers ≤ z) :
    Calls Tryz.prog 13 #[.agg (inpVals A c D cd T ct R cr i), .int .i64 z] w fun e w' => e = .returned (.tuple #[.agg #[.slice none 0 0, .int .i64 0, .int .i64 0, .int .i64 0, .int .i64 0, .int .i64 0, .int .i64 0, .int .i64 0, .int .i64 0, .int .i64 0, .int .i64 0, .int .i64 0, .slice none 0 0, .slice none 0 0, .slice none 0 0, .int .i64 0, .slice none 0 0, .slice none 0 0, .slice none 0 0, .slice none 0 0, .slice none 0 0, .int .i64 0], .int .i64 2]) ∧ Below w.heap.size w w' := by
  obtain ⟨W0, W1, hW0, hW1, g0, g1, k1, _⟩ := rm_boxes w (inpVals A c D cd T ct R cr i) #[.slice none 0 0, .int .i64 0, .int .i64 0, .int .i64 0, .int .i64 0, .int .i64 0, .int .i64 0, .int .i64 0, .int .i64 0, .int .i64 0, .int .i64 0, .int .i64 0, .slice none 0 0, .slice none 0 0, .slice none 0 0, .int .i64 0, .slice none 0 0, .slice none 0 0, .slice none 0 0, .slice none 0 0, .slice none 0 0, .int .i64 0] 29 43
  have hi0 := rinput_any A c D cd T ct R cr i W1 (h.below k1)
  rw [hc] at hi0
  have HW0 := Lib.hid hW0; have HW1 := Lib.hid hW1; have Hi0 := Lib.hid hi0; have G0 := Lib.hid g0; have G1 := Lib.hid g1; have K1 := Lib.hid k1
  clear hW0 hW1 g0 g1 hi0 h hc k1
  go_enter Tryz.func13, Tryz.ntmps13
  go_wp2_with (refine wpl_load (b := w.heap.size) (inpVals A c D cd T ct R cr i) (by rw [HW0.out, HW1.out]; exact G0.out) rt_inp rfl rfl rfl rfl ?_)
  rw [HW0.out, HW1.out]
  refine Hi0.out.mono ?_
  rintro e w1 ⟨rfl, k2⟩
  have g2 := sb G0.out w1 k2
  have G2 := Lib.hid (sb G1.out w1 k2); have K2 := Lib.hid (K1.out.trans (k2.mono K1.out.size))
  dsimp only [inpVals] at g2
  have t4 := cell_of_row w1 w.heap.size 4 _ _ _ g2
  have hl := lt_of_block g2
  clear k2 g2
  rcases Classical.em (z < 0) with h0 | h0
  rotate_left
  have h1 : i.cfg.workers ≤ z := by omega
  all_goals go_wp2_with (refine wpl_store G2.out rt_rm rfl rfl rfl rfl rfl rfl rfl ?_; intro w9 e9 k9; have E9 := Lib.hid e9; have K9 := Lib.hid k9; clear e9 k9)
  all_goals exact bodyPost_ret (res_cell_tmp rfl rfl E9.out rt_rm) rfl ⟨rfl, K2.out.trans (K9.out.toBelow K2.out.size (fun j hj => by rw [hj]; exact Nat.le_succ _))⟩
end Go.Proofs.YtaccfnffmbndhaaGreat
namespace Go.Proofs.YtaccfnffmbndhaaGreat
open Go.RowKit
def allN (i : Inp) (x k : Nat) : List Itm := (List.range k).flatMap fun t => itemsL (plnI i) x t
abbrev allL (i : Inp) (x : Nat) : List Itm := allN i x i.cfg.steps.toNat
theorem allN_succ (i : Inp) (x k : Nat) : allN i x (k + 1) = allN i x k ++ itemsL (plnI i) x k := by simp [allN, List.range_succ]
theorem allN_len {i : Inp} (hp : PlnOk (plnI i)) (x k : Nat) : (allN i x k).length = k * (itemsL (plnI i) x 0).length := by
  induction k with
  | zero => simp [allN]
  | succ k ih => rw [allN_succ, List.length_append, ih, items_lenS hp x k, Nat.succ_mul]
theorem allN_at {i : Inp} (hp : PlnOk (plnI i)) {x st nx : Nat} {y : Itm} (hy : (itemsL (plnI i) x st)[nx]? = some y) : ∀ {k : Nat}, st < k → (allN i x k)[st * (itemsL (plnI i) x 0).length + nx]? = some y
  | 0, h => absurd h (Nat.not_lt_zero _)
  | k + 1, h => by
    have hl := allN_len hp x k
    have hn := (List.getElem?_eq_some_iff.1 hy).1
    rw [items_lenS hp] at hn
    rw [allN_succ]
    rcases Nat.lt_or_ge st k with h' | h'
    · have h1 := Nat.mul_le_mul_right (itemsL (plnI i) x 0).length (Nat.succ_le_of_lt h')
      rw [Nat.succ_mul] at h1
      rw [List.getElem?_append_left (by omega)]
      exact allN_at hp hy h'
    · obtain rfl : st = k := by omega
      rw [List.getElem?_append_right (by omega), hl, Nat.add_sub_cancel_left]
      exact hy
def opStep (j : Nat) (b : Bool) (y : Itm) : Bool := if y.kind = 5 ∧ y.n = j then false else if y.kind = 2 ∧ y.n = j then true else b
def isOp (its : List Itm) (dn j : Nat) : Bool := (its.take dn).foldl (opStep j) false
def opnN (its : List Itm) (dn nb : Nat) : List Nat := (List.range nb).filter fun j => isOp its dn j
theorem isOp_succ {its : List Itm} {k : Nat} {y : Itm} (h : its[k]? = some y) (j : Nat) : isOp its (k + 1) j = opStep j (isOp its k j) y := by
  obtain ⟨hk, e⟩ := List.getElem?_eq_some_iff.1 h
  unfold isOp
  rw [List.take_succ_eq_append_getElem hk, e, List.foldl_append]
  rfl
theorem opnN_succ (its : List Itm) (dn nb : Nat) : opnN its dn (nb + 1) = opnN its dn nb ++ if isOp its dn nb then [nb] else [] := by
  unfold opnN
  rw [List.range_succ, List.filter_append]
  congr 1
  simp only [List.filter_cons, List.filter_nil]
theorem opnN_le (its : List Itm) (dn nb : Nat) : (opnN its dn nb).length ≤ nb := by
  unfold opnN
  exact Nat.le_trans (List.length_filter_le _ _) (by simp)
theorem opnN_zero (its : List Itm) (nb : Nat) : opnN its 0 nb = [] := by
  unfold opnN isOp
  simp
end Go.Proofs.YtaccfnffmbndhaaGreat
namespace Go.Proofs.YtaccfnffmbndhaaGreat
open Go.RowKit
def DifferIs (l1 l2 : List Int) (e : Ending) : Prop := ∃ d : Int, e = .returned (.int .i64 d) ∧ -1 ≤ d ∧ (d < 0 ↔ l1 = l2)
theorem differ_any (A1 A2 : Option Addr) (l1 l2 : List Int) (c1 c2 : Nat) (w : World) (h1 : Rd w A1 (nums .i64 l1)) (h2 : Rd w A2 (nums .i64 l2)) (hl1 : l1.length ≤ 17592186043904) (hl2 : l2.length ≤ 17592186043904) :
    Calls Tryz.prog 76 #[.slice A1 l1.length c1, .slice A2 l2.length c2] w fun e w' => DifferIs l1 l2 e ∧ ∃ n, w' = w.drewN n := by
  go_enter Tryz.func76, Tryz.ntmps76
  go_wp2
  go_loopw [5] (fun i wr => ∃ k : Nat, k ≤ l1.length ∧ k ≤ l2.length ∧ i = .int .i64 k ∧ l1.take k = l2.take k ∧ ∃ n, wr = w.drewN n) (fun i _ => l1.length + l2.length + 1 - (intOf i).toNat)
  case atStart => exact ⟨0, Nat.zero_le _, Nat.zero_le _, rfl, rfl, 0, rfl⟩
  case round =>
    obtain ⟨k, hk1, hk2, rfl, hpre, n, rfl⟩ := hrel
    have Hpre := Lib.hid hpre; clear hpre
    by_cases hlt1 : k < l1.length
    · by_cases hlt2 : k < l2.length
      · obtain ⟨b1, o1, rfl, hc1⟩ := h1.num hlt1
        obtain ⟨b2, o2, rfl, hc2⟩ := h2.num hlt2
        have g1 : decide ((l1.length : Int) ≤ (k : Int)) = false := by simp; omega
        have g2 : decide ((l2.length : Int) ≤ (k : Int)) = false := by simp; omega
        go_wp2
        go_quiet (fail)
        go_wp2
        · have hx : (l1.length ≤ k ∨ l2.length ≤ k) ∨ (nth l1 k != nth l2 k) = true := by assumption
          have hx : (nth l1 k != nth l2 k) = true := hx.resolve_left (by omega)
          have Hx := Lib.hid hx; clear hx
          go_ret
          refine ⟨⟨k, rfl, by omega, fun h => by omega, fun h => ?_⟩, _, World.drewN_drewN _ _ _⟩
          subst h
          have := Hx.out
          simp at this
        · have hx : (¬l1.length ≤ k ∧ ¬l2.length ≤ k) ∧ (nth l1 k != nth l2 k) = false := by assumption
          have hx := hx.2
          have Hx := Lib.hid hx; clear hx
          go_roundw
          case rel => exact ⟨k + 1, by omega, by omega, by go_num, take_eq_succ hlt1 hlt2 Hpre.out (by have := Hx.out; simpa using this), _, rfl⟩
          case measure => simp [intOf]; omega
      · have g1 : decide ((l1.length : Int) ≤ (k : Int)) = false := by simp; omega
        have g2 : decide ((l2.length : Int) ≤ (k : Int)) = true := by simp; omega
        go_wp2
        go_quiet (fail)
        go_wp2
        go_ret
        refine ⟨⟨k, rfl, by omega, fun h => by omega, fun h => ?_⟩, _, by first | rfl | exact World.drewN_drewN _ _ _⟩
        subst h; omega
    · by_cases hlt2 : k < l2.length
      · obtain rfl : k = l1.length := by omega
        go_wp2
        go_quiet (fail)
        go_wp2
        go_ret
        refine ⟨⟨l1.length, rfl, by omega, fun h => by omega, fun h => ?_⟩, _, by first | rfl | exact World.drewN_drewN _ _ _⟩
        subst h; omega
      · go_wp2
        go_ret
        refine ⟨⟨-1, rfl, by omega, fun _ => ?_, fun _ => by omega⟩, n, rfl⟩
        have e1 : k = l1.length := by omega
        exact eq_of_take (by omega) (by rw [← e1]; exact Hpre.out)
theorem same_any (A1 A2 : Option Addr) (l1 l2 : List Int) (c1 c2 : Nat) (w : World) (h1 : Rd w A1 (nums .i64 l1)) (h2 : Rd w A2 (nums .i64 l2)) (hl1 : l1.length ≤ 17592186043904) (hl2 : l2.length ≤ 17592186043904) :
    Calls Tryz.prog 25 #[.slice A1 l1.length c1, .slice A2 l2.length c2] w fun e w' => e = .returned (.bool (decide (l1 = l2))) ∧ ∃ n, w' = w.drewN n := by
  have hd := differ_any A1 A2 l1 l2 c1 c2 w h1 h2 hl1 hl2
  have Hd := Lib.hid hd; clear hd
  go_enter Tryz.func25, Tryz.ntmps25
  go_wp2_with fail
  refine Hd.out.mono ?_
  rintro e w1 ⟨⟨d, rfl, hd0, hd1⟩, n, rfl⟩
  by_cases hd : d < 0
  · have h := hd1.1 hd
    have H := Lib.hid h; clear h hd1
    go_wp2
    go_ret
    exact ⟨ret_bool (by rw [decide_eq_true H.out]; first | done | simpa using hd), n, rfl⟩
  · have h : ¬ l1 = l2 := fun e => hd (hd1.2 e)
    have H := Lib.hid h; clear h hd1
    go_wp2
    go_ret
    exact ⟨ret_bool (by rw [decide_eq_false H.out]; first | done | simpa using hd), n, rfl⟩
end Go.Proofs.YtaccfnffmbndhaaGreat
namespace Go.Proofs.YtaccfnffmbndhaaGreat
open Go.RowKit
set_option maxRecDepth 100000 in
theorem stsame_any (A1 A2 B1 B2 : Option Addr) (p m p' m' : List Int) (c1 c2 d1 d2 : Nat) (w : World) (h1 : NumsRd w A1 p c1) (h2 : NumsRd w A2 m c2) (h3 : NumsRd w B1 p' d1) (h4 : NumsRd w B2 m' d2) :
    Calls Tryz.prog 55 #[.agg #[.slice A1 p.length c1, .slice A2 m.length c2], .agg #[.slice B1 p'.length d1, .slice B2 m'.length d2]] w fun e w' => e = .returned (.bool (decide (p = p') && decide (m = m'))) ∧ Below w.heap.size w w' := by
  have hs1 := fun w' (q : Below w.heap.size w w') => same_any A1 B1 p p' c1 d1 w' (h1.hr.below q) (h3.hr.below q) h1.hl h3.hl
  have hs2 := fun w' (q : Below w.heap.size w w') => same_any A2 B2 m m' c2 d2 w' (h2.hr.below q) (h4.hr.below q) h2.hl h4.hl
  obtain ⟨b1, hb1⟩ : ∃ b1, decide (p = p') = b1 := ⟨_, rfl⟩
  obtain ⟨b2, hb2⟩ : ∃ b2, decide (m = m') = b2 := ⟨_, rfl⟩
  obtain ⟨n1, hn1⟩ : ∃ n, p.length = n := ⟨_, rfl⟩
  obtain ⟨n2, hn2⟩ : ∃ n, m.length = n := ⟨_, rfl⟩
  obtain ⟨m1, hm1⟩ : ∃ n, p'.length = n := ⟨_, rfl⟩
  obtain ⟨m2, hm2⟩ : ∃ n, m'.length = n := ⟨_, rfl⟩
  rw [hb1, hn1, hm1] at hs1
  rw [hb2, hn2, hm2] at hs2
  rw [hb1, hb2, hn1, hn2, hm1, hm2]
  have Hs1 := Lib.hid hs1; have Hs2 := Lib.hid hs2
  clear hs1 hs2 hb1 hb2 hn1 hn2 hm1 hm2 h1 h2 h3 h4
  go_enter Tryz.func55, Tryz.ntmps55
  go_wp2_with fail
  have hz := (Below.heap_alloc (w.alloc (.cells #[.slice A1 n1 c1, .slice A2 n2 c2] 39)) (.cells #[.slice B1 m1 d1, .slice B2 m2 d2] 39) w.heap.size (by simp)).trans (heap_alloc_new w _)
  have hy := heap_alloc_new (w.alloc (.cells #[.slice A1 n1 c1, .slice A2 n2 c2] 39)) (.cells #[.slice B1 m1 d1, .slice B2 m2 d2] 39)
  rw [show (w.alloc (.cells #[.slice A1 n1 c1, .slice A2 n2 c2] 39)).heap.size = w.heap.size + 1 by simp] at hy
  have hB : Below w.heap.size w ((w.alloc (.cells #[.slice A1 n1 c1, .slice A2 n2 c2] 39)).alloc (.cells #[.slice B1 m1 d1, .slice B2 m2 d2] 39)) := ((Below.refl _ w).alloc (Nat.le_refl _) _).alloc (by simp) _
  obtain ⟨W0, hW0⟩ : ∃ W0, W0 = (w.alloc (.cells #[.slice A1 n1 c1, .slice A2 n2 c2] 39)).alloc (.cells #[.slice B1 m1 d1, .slice B2 m2 d2] 39) := ⟨_, rfl⟩
  rw [← hW0] at hz hy hB ⊢
  clear hW0
  refine (Hs1.out _ hB).mono ?_
  rintro e w1 ⟨rfl, d, rfl⟩
  have hB1 := below_drewN hB d
  have hz1 : (W0.drewN d).heap[w.heap.size]? = some (.cells #[.slice A1 n1 c1, .slice A2 n2 c2] 39 (0, 0)) := hz
  have hy1 : (W0.drewN d).heap[w.heap.size + 1]? = some (.cells #[.slice B1 m1 d1, .slice B2 m2 d2] 39 (0, 0)) := hy
  clear hz hy hB
  generalize W0.drewN d = W1 at hz1 hy1 hB1 ⊢
  obtain ⟨⟨z0, z1⟩, zf⟩ := bx2 hz1
  obtain ⟨⟨y0, y1⟩, yf⟩ := bx2 hy1
  have HB1 := Lib.hid hB1
  clear hz1 hy1 hB1
  rcases bool_ft b1 with rfl | rfl
  · go_wp2_with fail
    go_ret
    exact ⟨rfl, HB1.out⟩
  go_wp2_with fail
  refine (Hs2.out _ HB1.out).mono ?_
  rintro e w2 ⟨rfl, d2, rfl⟩
  go_wp2_with fail
  go_ret
  exact ⟨by simp, below_drewN HB1.out d2⟩
theorem et_ri64s : ElemT Tryz.prog 26 2 (.int .i64 0) 1 8 := ⟨Tryz.underlying26, info_parts (by kernel_rfl), rfl, by decide⟩
set_option maxRecDepth 100000 in
theorem rstart_any (A : Option Addr) (n c : Nat) (w : World) (hn : n ≤ 1048576) :
    Calls Tryz.prog 52 #[.slice A n c] w fun e w' => ∃ A2, e = .returned (.agg #[.slice A n c, .slice A2 n n]) ∧ w'.ownsRow w.heap.size 2 1 (.slice A2 n n) n (nums .i64 (List.replicate n 0)) ∧ Below w.heap.size w w' := by
  have hmk := fun w' => run_mk et_ri64s w' rfl n (by omega) (by unfold maxLen; omega)
  simp only [nums_rep] at hmk
  have Hmk := Lib.hid hmk
  clear hmk
  have hz := heap_alloc_new w (.cells #[.slice none 0 0, .slice none 0 0] 39)
  have hB0 : Below w.heap.size w (w.alloc (.cells #[.slice none 0 0, .slice none 0 0] 39)) := (Below.refl _ w).alloc (Nat.le_refl _) _
  have hl0 := lt_of_block hz
  obtain ⟨V, hrun, ho2, hb2⟩ := Hmk.out (w.alloc (.cells #[.slice none 0 0, .slice none 0 0] 39))
  rw [show (w.alloc (.cells #[.slice none 0 0, .slice none 0 0] 39)).heap.size = w.heap.size + 1 by simp] at hrun ho2
  have HZ2 := Lib.hid ((hb2.block w.heap.size hl0).trans hz)
  have HO2 := Lib.hid (own_base (base' := w.heap.size) ho2 (by omega)); have HB2 := Lib.hid (hB0.trans (hb2.mono (by omega)))
  have hz2 := HZ2.out
  obtain ⟨⟨z0, z1⟩, zf⟩ := bx2 hz2
  have hl2 := lt_of_block hz2
  clear hz hB0 ho2 hb2 hz2 hl0
  go_enter Tryz.func52, Tryz.ntmps52
  go_wp2_with fail
  have e1 := heap_setCell_same V w.heap.size 0 _ _ (.slice A n c) HZ2.out
  have e2 := heap_setCell_same _ w.heap.size 1 _ _ (.slice (some ⟨w.heap.size + 1, 0, none⟩) n n) e1
  have e3 : ((V.setCell ⟨w.heap.size, 0, none⟩ (.slice A n c)).setCell ⟨w.heap.size, 1, none⟩ (.slice (some ⟨w.heap.size + 1, 0, none⟩) n n)).heap[w.heap.size]? = some (.cells #[.slice A n c, .slice (some ⟨w.heap.size + 1, 0, none⟩) n n] 39 (0, 0)) := by simpa using e2
  have hk : Keep (fun j => j = w.heap.size) V ((V.setCell ⟨w.heap.size, 0, none⟩ (.slice A n c)).setCell ⟨w.heap.size, 1, none⟩ (.slice (some ⟨w.heap.size + 1, 0, none⟩) n n)) := Keep.setCell (S := fun j => j = w.heap.size) (Keep.setCell (S := fun j => j = w.heap.size) (Keep.refl _ _) _ (.inr rfl) _) _ (.inr rfl) _
  obtain ⟨W9, hW9⟩ : ∃ W9, W9 = (V.setCell ⟨w.heap.size, 0, none⟩ (.slice A n c)).setCell ⟨w.heap.size, 1, none⟩ (.slice (some ⟨w.heap.size + 1, 0, none⟩) n n) := ⟨_, rfl⟩
  rw [← hW9] at e3 hk ⊢
  obtain ⟨⟨r0, r1⟩, rf⟩ := bx2 e3
  have hm9 := hk.own HO2.out (fun j hj e => block_notrow HZ2.out (by decide) HO2.out (by rw [hj, e]))
  exact bodyPost_ret (v := .agg #[.slice A n c, .slice (some ⟨w.heap.size + 1, 0, none⟩) n n]) (by simp [results, Tryz.results52, go_sem, r0, r1]) rfl ⟨_, rfl, hm9, HB2.out.trans (hk.toBelow HB2.out.size (fun j hj => by omega))⟩
end Go.Proofs.YtaccfnffmbndhaaGreat
