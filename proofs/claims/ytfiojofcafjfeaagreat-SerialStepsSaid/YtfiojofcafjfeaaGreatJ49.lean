/- Six bytes that came in. Regions that draw their order, in few steps: what is taken first is taken all at once; a call in one step. What is known of memory, as rules for all later worlds. No condition. -/
import Derived.Test.YtfiojofcafjfeaaGreatJ12
import Derived.Test.YtfiojofcafjfeaaGreatJ08
import Derived.Test.YtfiojofcafjfeaaGreatJ01
set_option linter.unusedSimpArgs false
set_option linter.unusedVariables false
namespace Go.Proofs.YtfiojofcafjfeaaGreat
open Go.RowKit Go.ChangeShapes Go.WideShapes Go.ChangeAt

theorem cells_arr6 : Tryz.prog.cellsOf 41 = 6 := by kernel_rfl
theorem cells_u8 : Tryz.prog.cellsOf 5 = 1 := by kernel_rfl
theorem wf_u8 {z : Int} (h : (Lit.int .u8 z).wf = true) : 0 ≤ z ∧ z ≤ 255 := by
  simpa [Lit.wf, IntKind.min, IntKind.max, IntKind.signed, IntKind.bits] using h
set_option maxRecDepth 100000 in
theorem open_arr6 {H : Type} {enc : TypeId × Value → H} {W : World} {base : Nat} {v : Value} {d : DataW H} {p : List MemPlace} (o : Value.okWide Tryz.prog W .any base 41 v) (h : DataW.Trod enc Tryz.prog W 0 (fun _ => true) true 41 v d p) :
    ∃ a0 a1 a2 a3 a4 a5 : Int, v = .agg #[.int .u8 a0, .int .u8 a1, .int .u8 a2, .int .u8 a3, .int .u8 a4, .int .u8 a5] ∧ (0 ≤ a0 ∧ a0 ≤ 255) ∧ (0 ≤ a1 ∧ a1 ≤ 255) ∧ (0 ≤ a2 ∧ a2 ≤ 255) ∧ (0 ≤ a3 ∧ a3 ≤ 255) ∧ (0 ≤ a4 ∧ a4 ≤ 255) ∧ (0 ≤ a5 ∧ a5 ≤ 255) := by
  simp only [Value.okWide, Tryz.underlying41] at o
  obtain ⟨cs, rfl, hs, _⟩ := o
  obtain ⟨fuel, hf⟩ := h
  obtain ⟨xs, m, _, _, hl, hxl, hx⟩ := DataW.trod_array Tryz.underlying41 hf
  rw [cells_arr6] at hl hs
  simp only [cells_u8, Nat.mul_one] at hx
  obtain ⟨l⟩ := cs
  have e : (Value.agg ⟨l⟩).cells.toList = l := rfl
  rw [e] at hl hx
  have hg : ∀ i, i < 6 → ∃ a : Int, (l.drop i).take 1 = [.int .u8 a] ∧ (0 ≤ a ∧ a ≤ 255) := fun i hi => by
    have h1 := hx i hi
    obtain ⟨y, hy⟩ : ∃ y, xs[i]? = some y := ⟨_, List.getElem?_eq_getElem (by omega)⟩
    rw [hy] at h1
    obtain ⟨a, ea, _, wa⟩ := DataW.trod_int Tryz.underlying5 h1
    exact ⟨a, ea, wf_u8 wa⟩
  match l, hl with
  | [c0, c1, c2, c3, c4, c5], _ =>
    obtain ⟨a0, e0, b0⟩ := hg 0 (by omega)
    obtain ⟨a1, e1, b1⟩ := hg 1 (by omega)
    obtain ⟨a2, e2, b2⟩ := hg 2 (by omega)
    obtain ⟨a3, e3, b3⟩ := hg 3 (by omega)
    obtain ⟨a4, e4, b4⟩ := hg 4 (by omega)
    obtain ⟨a5, e5, b5⟩ := hg 5 (by omega)
    simp at e0 e1 e2 e3 e4 e5
    exact ⟨a0, a1, a2, a3, a4, a5, by rw [e0, e1, e2, e3, e4, e5], b0, b1, b2, b3, b4, b5⟩
end Go.Proofs.YtfiojofcafjfeaaGreat
namespace Go.Proofs.YtfiojofcafjfeaaGreat

section
variable {P : Program} {ops : Array Oper} {Q : Exit → Act → World → Prop} {S : World → Prop} {n : Nat}

/-- How many have not come up yet. -/
def unl (l : Array Bool) : Nat := l.toList.count false
theorem unl_set {l : Array Bool} {i : Nat} (h : l.getD i true = false) : unl l = unl (l.setIfInBounds i true) + 1 := by
  have hi : i < l.size := by
    rcases Nat.lt_or_ge i l.size with h' | h'
    · exact h'
    · simp [Array.getElem?_eq_none h'] at h
  have hl : l.toList[i]'(by simpa using hi) = false := by simpa [hi] using h
  have h0 : List.count false (l.toList.set i true) = List.count false l.toList - 1 := by
    rw [List.count_set (by simpa using hi)]
    simp [hl]
  have h1 : 0 < List.count false l.toList := List.count_pos_iff.2 (by rw [← hl]; exact List.getElem_mem _)
  unfold unl
  rw [Array.toList_setIfInBounds, h0]
  omega
/-- Those that have come up. -/
def marked (m : Nat) (L : List Nat) : Array Bool := L.foldr (fun i l => l.setIfInBounds i true) (Array.replicate m false)

/-! The same questions, asked of the list of those that have come up. -/
theorem marked_size (m : Nat) : ∀ L : List Nat, (marked m L).size = m
  | [] => by simp [marked]
  | a :: L => by simp only [marked, List.foldr_cons, Array.size_setIfInBounds]; exact marked_size m L
theorem marked_get (m i : Nat) (d : Bool) : ∀ L : List Nat, (marked m L).getD i d = if i < m then L.contains i else d
  | [] => by simp only [marked, List.foldr_nil, List.contains_nil]; split <;> simp_all [Array.getElem?_replicate]
  | a :: L => by
    have ih := marked_get m i d L
    have hs := marked_size m L
    show ((marked m L).setIfInBounds a true).getD i d = _
    by_cases h : i < m
    · rw [if_pos h] at ih ⊢
      by_cases ha : a = i
      · subst ha; simp [hs, h]
      · rw [getD_set_ne d ha, ih]; simp [Ne.symm ha]
    · rw [if_neg h] at ih ⊢
      by_cases ha : a = i
      · subst ha; simp [hs, h]
      · rw [getD_set_ne d ha, ih]
def readyF (ops : Array Oper) (L : List Nat) : List Nat :=
  (List.range ops.size).filter fun i => !L.contains i && ((ops[i]?).map (·.after.all fun e => !Region.binds .any e || (L.contains e.on && decide (e.on < ops.size)))).getD false
theorem readyF_eq (L : List Nat) : Region.ready .any ops (marked ops.size L) = readyF ops L := by
  unfold Region.ready readyF
  refine List.filter_congr fun i hi => ?_
  rw [marked_get, if_pos (List.mem_range.1 hi)]
  congr 3
  funext o
  congr 1
  funext e
  rw [marked_get]
  by_cases h : e.on < ops.size <;> simp [h]
def freeF (ops : Array Oper) (L : List Nat) (i : Nat) : Bool :=
  match ops[i]? with
  | none => false
  | some oi => (List.range ops.size).all fun j => j == i || L.contains j || match ops[j]? with
      | some oj => oj.after.any (fun e => Region.binds .any e && e.on == i) || oi.apart ops oj
      | none => true
theorem freeF_eq (L : List Nat) (i : Nat) : Region.free .any ops (marked ops.size L) i = freeF ops L i := by
  unfold Region.free freeF
  cases ops[i]? with
  | none => rfl
  | some oi =>
    dsimp only
    rw [Bool.eq_iff_iff, List.all_eq_true, List.all_eq_true]
    refine forall_congr' fun j => forall_congr' fun hj => ?_
    rw [marked_get, if_pos (List.mem_range.1 hj)]
    exact Iff.rfl
def seqF (ops : Array Oper) : Nat → Nat → List Nat → Bool
  | 0, _, L => (readyF ops L).isEmpty
  | g + 1, k, L => decide (readyF ops L = [k]) && seqF ops g (k + 1) (k :: L)
theorem seqF_eq : ∀ (g k : Nat) (L : List Nat), Region.seqB .any ops g k (marked ops.size L) = seqF ops g k L
  | 0, k, L => by simp only [Region.seqB, seqF, readyF_eq]
  | g + 1, k, L => by
    simp only [Region.seqB, seqF, readyF_eq]
    rw [← seqF_eq g (k + 1) (k :: L)]; rfl

/-- These yield one after the other, in every world that meets S, and leave a'. -/
inductive Ys (P : Program) (ops : Array Oper) (S : World → Prop) : List Nat → Act → Act → Prop
  | nil {a : Act} : Ys P ops S [] a a
  | cons {i : Nat} {is : List Nat} {o : Oper} {v : Value} {a a' : Act} (ho : ops[i]? = some o) (hy : YieldsIf P ops S o v a) (ht : Ys P ops S is (a.put o.dst v) a') : Ys P ops S (i :: is) a a'

/-- Each of them may come up and be taken first. -/
def takesB (ops : Array Oper) : List Nat → List Nat → Bool
  | _, [] => true
  | L, i :: is => (freeF ops L i && (readyF ops L).contains i) && takesB ops (i :: L) is
def takesX (ops : Array Oper) (n : Nat) : List Nat → List Nat → Bool
  | _, [] => true
  | L, i :: is => (Region.waitsFor .any ops n i && decide (i ≠ n) && (decide (n < ops.size) && !L.contains n) && freeF ops L i && (readyF ops L).contains i) && takesX ops n (i :: L) is

/-- A region of which those of L have come up; S holds behind each step. -/
structure HA (P : Program) (ops : Array Oper) (Q : Exit → Act → World → Prop) (S : World → Prop) (L : List Nat) (a : Act) (w : World) : Prop where
  out : wpAnyH P .any ops Q S (unl (marked ops.size L)) (marked ops.size L) a w
/-- The same; S holds till number n has come up. -/
structure XA (P : Program) (ops : Array Oper) (Q : Exit → Act → World → Prop) (S : World → Prop) (n : Nat) (L : List Nat) (a : Act) (w : World) : Prop where
  out : wpAnyX P .any ops Q S n (unl (marked ops.size L)) (marked ops.size L) a w

theorem unl_marked (m : Nat) : unl (marked m []) = m := by simp [unl, marked, List.count_replicate]
theorem HA.go {id : Nat} {a : Act} {w : World} (S : World → Prop) (hm : P.follows .mixedOrders = true) (h : HA P ops Q S [] a w.drew) : (Code.region id ops true).wp P Q a w := by
  refine wp_region_held (S := S) hm ?_
  have h' := h.out
  rw [unl_marked] at h'
  exact h'
theorem XA.go {id : Nat} {a : Act} {w : World} (n : Nat) (S : World → Prop) (hm : P.follows .mixedOrders = true) (h : XA P ops Q S n [] a w.drew) : (Code.region id ops true).wp P Q a w := by
  refine wp_region_X n S hm ?_
  have h' := h.out
  rw [unl_marked] at h'
  exact h'
theorem marked_ready {L : List Nat} {i : Nat} (h : (readyF ops L).contains i = true) : unl (marked ops.size L) = unl (marked ops.size (i :: L)) + 1 :=
  unl_set (mem_ready.1 (show i ∈ Region.ready .any ops (marked ops.size L) by rw [readyF_eq]; simpa using h)).1

theorem HA.takes (hs : Region.noSelect ops = true) (hQ : ∀ c a w d v, Q (.panic c) (Act.put a d v) w → Q (.panic c) a w) {w : World} (hS : S w) :
    ∀ (is : List Nat) {L : List Nat} {a a' : Act}, takesB ops L is = true → Ys P ops S is a a' → HA P ops Q S (is.reverse ++ L) a' w → HA P ops Q S L a w
  | [], _, _, _, _, .nil, h => h
  | i :: is, L, a, a', hc, .cons ho hy ht, h => by
    simp only [takesB, Bool.and_eq_true] at hc
    have h2 := HA.takes hs hQ hS is (L := i :: L) hc.2 ht (by simpa using h)
    refine ⟨?_⟩
    rw [marked_ready hc.1.2]
    exact wpAnyH_take ho hs (by rw [freeF_eq]; exact hc.1.1) (by rw [readyF_eq]; exact hc.1.2) (fun c a w => hQ c a w _ _) hy hS h2.out
theorem XA.takes (hs : Region.noSelect ops = true) (hQ : ∀ c a w d v, Q (.panic c) (Act.put a d v) w → Q (.panic c) a w) {w : World} (hS : S w) :
    ∀ (is : List Nat) {L : List Nat} {a a' : Act}, takesX ops n L is = true → Ys P ops S is a a' → XA P ops Q S n (is.reverse ++ L) a' w → XA P ops Q S n L a w
  | [], _, _, _, _, .nil, h => h
  | i :: is, L, a, a', hc, .cons ho hy ht, h => by
    simp only [takesX, Bool.and_eq_true, decide_eq_true_eq, Bool.not_eq_true'] at hc
    have h2 := XA.takes hs hQ hS is (L := i :: L) hc.2 ht (by simpa using h)
    refine ⟨?_⟩
    rw [marked_ready hc.1.2]
    exact wpAnyX_take ho hc.1.1.1.1.1 hc.1.1.1.1.2 (by rw [marked_get, if_pos hc.1.1.1.2.1, hc.1.1.1.2.2]) hs (by rw [freeF_eq]; exact hc.1.1.2) (by rw [readyF_eq]; exact hc.1.2) (fun c a w => hQ c a w _ _) hy hS h2.out
/-- Those that yield in whatever world. -/
def takes0 (ops : Array Oper) (n : Nat) : List Nat → List Nat → Bool
  | _, [] => true
  | L, i :: is => (decide (i ≠ n) && freeF ops L i && (readyF ops L).contains i) && takes0 ops n (i :: L) is
theorem XA.takes0 (hs : Region.noSelect ops = true) (hQ : ∀ c a w d v, Q (.panic c) (Act.put a d v) w → Q (.panic c) a w) {w : World} (hS : S w) :
    ∀ (is : List Nat) {L : List Nat} {a a' : Act}, YtfiojofcafjfeaaGreat.takes0 ops n L is = true → Ys P ops (fun _ => True) is a a' → XA P ops Q S n (is.reverse ++ L) a' w → XA P ops Q S n L a w
  | [], _, _, _, _, .nil, h => h
  | i :: is, L, a, a', hc, .cons ho hy ht, h => by
    simp only [YtfiojofcafjfeaaGreat.takes0, Bool.and_eq_true, decide_eq_true_eq] at hc
    have h2 := XA.takes0 hs hQ hS is (L := i :: L) hc.2 ht (by simpa using h)
    refine ⟨?_⟩
    rw [marked_ready hc.1.2]
    exact wpAnyX_take0 ho hc.1.1.1 hs (by rw [freeF_eq]; exact hc.1.1.2) (by rw [readyF_eq]; exact hc.1.2) (fun c a w => hQ c a w _ _) hy hS h2.out

theorem ready_one {L : List Nat} {i : Nat} (hr : readyF ops L = [i]) : unl (marked ops.size L) = unl (marked ops.size (i :: L)) + 1 :=
  marked_ready (by rw [hr]; simp)
/-- The one that comes up. -/
theorem HA.one {L : List Nat} {a : Act} {w : World} (i : Nat) {o : Oper} (ho : ops[i]? = some o) (hr : readyF ops L = [i])
    (h : ∀ K' : Act → World → Prop, Shut (∀ a w, S w → (S w → HA P ops Q S (i :: L) a w) → K' a w) → if Region.wanted o (yielded ops a.tmps) = true then Oper.wp P o a w K' Q else K' (a.put o.dst undef) w) : HA P ops Q S L a w := by
  refine ⟨?_⟩
  rw [ready_one hr]
  exact wpAnyH_ready (by rw [readyF_eq]; exact hr) (by simp) (AllReadyH.cons ho (fun K' hK => h K' fun a w hS hw => hK.out a w hS fun hS' => (hw hS').out) AllReadyH.nil)
theorem XA.one {L : List Nat} {a : Act} {w : World} (i : Nat) {o : Oper} (ho : ops[i]? = some o) (hr : readyF ops L = [i])
    (h : ∀ K' : Act → World → Prop, Shut (∀ a w, S w → (S w → XA P ops Q S n (i :: L) a w) → K' a w) → if Region.wanted o (yielded ops a.tmps) = true then Oper.wp P o a w K' Q else K' (a.put o.dst undef) w) : XA P ops Q S n L a w := by
  refine ⟨?_⟩
  rw [ready_one hr]
  exact wpAnyX_ready (by rw [readyF_eq]; exact hr) (by simp) (AllReadyX.cons ho (fun K' hK => h K' fun a w hS hw => hK.out a w hS fun hS' => (hw hS').out) AllReadyX.nil)
/-- A call that comes up. -/
theorem HA.call {L : List Nat} {a : Act} {w : World} (i : Nat) {f : FuncId} {args : Array Value} {R : Ending → World → Prop} (hc : Calls P f args w R) {o : Oper} (ho : ops[i]? = some o) (hr : readyF ops L = [i])
    (hw : Region.wanted o (yielded ops a.tmps) = true) (he : (execOp a.eval o).run P w = .ok (.enter f args) w)
    (k : ∀ e w', R e w' → ∃ v, e = .returned v ∧ S w' ∧ (S w' → HA P ops Q S (i :: L) (a.put o.dst v) w')) : HA P ops Q S L a w := by
  refine HA.one i ho hr fun K' hK => ?_
  rw [if_pos hw]
  unfold Oper.wp
  rw [he]
  refine hc.mono fun e w' hR => ?_
  obtain ⟨v, rfl, hS, h⟩ := k e w' hR
  exact hK.out _ _ hS h
theorem XA.call {L : List Nat} {a : Act} {w : World} (i : Nat) {f : FuncId} {args : Array Value} {R : Ending → World → Prop} (hc : Calls P f args w R) {o : Oper} (ho : ops[i]? = some o) (hr : readyF ops L = [i])
    (hw : Region.wanted o (yielded ops a.tmps) = true) (he : (execOp a.eval o).run P w = .ok (.enter f args) w)
    (k : ∀ e w', R e w' → ∃ v, e = .returned v ∧ S w' ∧ (S w' → XA P ops Q S n (i :: L) (a.put o.dst v) w')) : XA P ops Q S n L a w := by
  refine XA.one i ho hr fun K' hK => ?_
  rw [if_pos hw]
  unfold Oper.wp
  rw [he]
  refine hc.mono fun e w' hR => ?_
  obtain ⟨v, rfl, hS, h⟩ := k e w' hR
  exact hK.out _ _ hS h
theorem HA.done {L : List Nat} {a : Act} {w : World} (hr : readyF ops L = []) (h : Q .normal a w) : HA P ops Q S L a w := ⟨wpAnyH_done (by rw [readyF_eq]; exact hr) h _⟩
/-- The end, one after the other. -/
theorem XA.tail {l : List Oper} {L : List Nat} {a : Act} {w : World} (hf : unl (marked l.toArray.size L) = (l.drop n).length) (hB : seqF l.toArray (l.drop n).length n L = true) (h : wpList P l.toArray Q (l.drop n) a w) :
    XA P l.toArray Q S n L a w := by
  refine ⟨?_⟩
  exact wpAnyX_tail hf (by rw [seqF_eq]; exact hB) h

/-! The same with what is always said alike left to be found. -/
theorem HA.g {id : Nat} {a : Act} {w : World} (S : World → Prop) (h : HA P ops Q S [] a w.drew) (hm : P.follows .mixedOrders = true := by decide +kernel) : (Code.region id ops true).wp P Q a w := HA.go S hm h
theorem XA.g {id : Nat} {a : Act} {w : World} (n : Nat) (S : World → Prop) (h : XA P ops Q S n [] a w.drew) (hm : P.follows .mixedOrders = true := by decide +kernel) : (Code.region id ops true).wp P Q a w := XA.go n S hm h
theorem HA.t (a' : Act) (is : List Nat) {L : List Nat} {a : Act} {w : World} (hS : S w) (h : HA P ops Q S (is.reverse ++ L) a' w)
    (hs : Region.noSelect ops = true := by decide +kernel) (hQ : ∀ c a w d v, Q (.panic c) (Act.put a d v) w → Q (.panic c) a w := by (intro _ _ _ d _ h; cases d <;> exact h)) (hc : takesB ops L is = true := by decide +kernel)
    (hy : Ys P ops S is a a' := by (try simp only [List.getElem_toArray, List.getElem_cons_succ, List.getElem_cons_zero, Act.put, List.setIfInBounds_toArray, List.set_cons_zero, List.set_cons_succ]); (repeat (refine Ys.cons (v := ?_) (by (simp only [List.getElem?_toArray, List.getElem?_cons_succ, List.getElem?_cons_zero]; rfl)) (Or.inl ⟨by rfl, ?_⟩) ?_; rotate_left; (· (intro w9 hS9; (try dsimp only at hS9); go_simp; (try with_reducible rfl))); simp only [List.getElem_toArray, List.getElem_cons_succ, List.getElem_cons_zero, Act.put, List.setIfInBounds_toArray, List.set_cons_zero, List.set_cons_succ])); exact Ys.nil) : HA P ops Q S L a w := HA.takes hs hQ hS is hc hy h
theorem XA.t (a' : Act) (is : List Nat) {L : List Nat} {a : Act} {w : World} (hS : S w) (h : XA P ops Q S n (is.reverse ++ L) a' w)
    (hs : Region.noSelect ops = true := by decide +kernel) (hQ : ∀ c a w d v, Q (.panic c) (Act.put a d v) w → Q (.panic c) a w := by (intro _ _ _ d _ h; cases d <;> exact h)) (hc : takesX ops n L is = true := by decide +kernel)
    (hy : Ys P ops S is a a' := by (try simp only [List.getElem_toArray, List.getElem_cons_succ, List.getElem_cons_zero, Act.put, List.setIfInBounds_toArray, List.set_cons_zero, List.set_cons_succ]); (repeat (refine Ys.cons (v := ?_) (by (simp only [List.getElem?_toArray, List.getElem?_cons_succ, List.getElem?_cons_zero]; rfl)) (Or.inl ⟨by rfl, ?_⟩) ?_; rotate_left; (· (intro w9 hS9; (try dsimp only at hS9); go_simp; (try with_reducible rfl))); simp only [List.getElem_toArray, List.getElem_cons_succ, List.getElem_cons_zero, Act.put, List.setIfInBounds_toArray, List.set_cons_zero, List.set_cons_succ])); exact Ys.nil) : XA P ops Q S n L a w := XA.takes hs hQ hS is hc hy h
theorem XA.t0 (a' : Act) (is : List Nat) {L : List Nat} {a : Act} {w : World} (hS : S w) (h : XA P ops Q S n (is.reverse ++ L) a' w)
    (hs : Region.noSelect ops = true := by decide +kernel) (hQ : ∀ c a w d v, Q (.panic c) (Act.put a d v) w → Q (.panic c) a w := by (intro _ _ _ d _ h; cases d <;> exact h)) (hc : YtfiojofcafjfeaaGreat.takes0 ops n L is = true := by decide +kernel)
    (hy : Ys P ops (fun _ => True) is a a' := by (try simp only [List.getElem_toArray, List.getElem_cons_succ, List.getElem_cons_zero, Act.put, List.setIfInBounds_toArray, List.set_cons_zero, List.set_cons_succ]); (repeat (refine Ys.cons (v := ?_) (by (simp only [List.getElem?_toArray, List.getElem?_cons_succ, List.getElem?_cons_zero]; rfl)) (Or.inl ⟨by rfl, ?_⟩) ?_; rotate_left; (· (intro w9 _; go_simp; (try with_reducible rfl))); simp only [List.getElem_toArray, List.getElem_cons_succ, List.getElem_cons_zero, Act.put, List.setIfInBounds_toArray, List.set_cons_zero, List.set_cons_succ])); exact Ys.nil) : XA P ops Q S n L a w := XA.takes0 hs hQ hS is hc hy h
theorem HA.c {L : List Nat} {a : Act} {w : World} (i : Nat) {f : FuncId} {args : Array Value} {R : Ending → World → Prop} {o : Oper} (hc : Calls P f args w R)
    (k : ∀ e w', R e w' → ∃ v, e = .returned v ∧ S w' ∧ (S w' → HA P ops Q S (i :: L) (a.put o.dst v) w')) (ho : ops[i]? = some o := by (simp only [List.getElem?_toArray, List.getElem?_cons_succ, List.getElem?_cons_zero]; rfl)) (hr : readyF ops L = [i] := by decide +kernel)
    (hw : Region.wanted o (yielded ops a.tmps) = true := by rfl) (he : (execOp a.eval o).run P w = .ok (.enter f args) w := by go_simp) : HA P ops Q S L a w := HA.call i hc ho hr hw he k
theorem XA.c {L : List Nat} {a : Act} {w : World} (i : Nat) {f : FuncId} {args : Array Value} {R : Ending → World → Prop} {o : Oper} (hc : Calls P f args w R)
    (k : ∀ e w', R e w' → ∃ v, e = .returned v ∧ S w' ∧ (S w' → XA P ops Q S n (i :: L) (a.put o.dst v) w')) (ho : ops[i]? = some o := by (simp only [List.getElem?_toArray, List.getElem?_cons_succ, List.getElem?_cons_zero]; rfl)) (hr : readyF ops L = [i] := by decide +kernel)
    (hw : Region.wanted o (yielded ops a.tmps) = true := by rfl) (he : (execOp a.eval o).run P w = .ok (.enter f args) w := by go_simp) : XA P ops Q S n L a w := XA.call i hc ho hr hw he k
theorem HA.d {L : List Nat} {a : Act} {w : World} (h : Q .normal a w) (hr : readyF ops L = [] := by decide +kernel) : HA P ops Q S L a w := ⟨wpAnyH_done (by rw [readyF_eq]; exact hr) h _⟩
theorem XA.e {l : List Oper} {L : List Nat} {a : Act} {w : World} (h : wpList P l.toArray Q (l.drop n) a w) (hf : unl (marked l.toArray.size L) = (l.drop n).length := by rfl) (hB : seqF l.toArray (l.drop n).length n L = true := by decide +kernel) :
    XA P l.toArray Q S n L a w := XA.tail hf hB h
/-- A step that comes up and gives nothing back: a store. -/
theorem HA.s {L : List Nat} {a : Act} {w : World} {o : Oper} (i : Nat) (w' : World) (hS : S w') (k : HA P ops Q S (i :: L) (a.put o.dst undef) w') (ho : ops[i]? = some o := by (simp only [List.getElem?_toArray, List.getElem?_cons_succ, List.getElem?_cons_zero]; rfl))
    (hr : readyF ops L = [i] := by decide +kernel) (hw : Region.wanted o (yielded ops a.tmps) = true := by rfl) (he : (execOp a.eval o).run P w = .ok .skip w' := by go_simp) : HA P ops Q S L a w := by
  refine HA.one i ho hr fun K' hK => ?_
  rw [if_pos hw]
  unfold Oper.wp
  rw [he]
  exact hK.out _ _ hS fun _ => k
/-- A step that comes up and gives a value: an alloc. -/
theorem HA.v {L : List Nat} {a : Act} {w : World} {o : Oper} (i : Nat) (w' : World) (v : Value) (hS : S w') (k : HA P ops Q S (i :: L) (a.put o.dst v) w') (ho : ops[i]? = some o := by (simp only [List.getElem?_toArray, List.getElem?_cons_succ, List.getElem?_cons_zero]; rfl))
    (hr : readyF ops L = [i] := by decide +kernel) (hw : Region.wanted o (yielded ops a.tmps) = true := by rfl) (he : (execOp a.eval o).run P w = .ok (.value v) w' := by go_simp) : HA P ops Q S L a w := by
  refine HA.one i ho hr fun K' hK => ?_
  rw [if_pos hw]
  unfold Oper.wp
  rw [he]
  exact hK.out _ _ hS fun _ => k
end
end Go.Proofs.YtfiojofcafjfeaaGreat
namespace Go.Proofs.YtfiojofcafjfeaaGreat
open Go.RowKit

/-- The cells of a block, from number i on. -/
def Cs (w : World) (b : Nat) : Nat → List Value → Prop
  | _, [] => True
  | i, v :: vs => w.cell? ⟨b, i, none⟩ = some v ∧ Cs w b (i + 1) vs
theorem cs_of (w : World) (b : Nat) (all : List Value) (hc : ∀ j, w.cell? ⟨b, j, none⟩ = all[j]?) : ∀ (vs : List Value) (i : Nat), (∀ j, vs[j]? = all[i + j]?) → Cs w b i vs
  | [], _, _ => trivial
  | v :: vs, i, h => ⟨by rw [hc]; exact (h 0).symm, cs_of w b all hc vs (i + 1) fun j => by have := h (j + 1); simpa [Nat.add_assoc, Nat.add_comm 1 j] using this⟩
/-- A block known whole: its cells, that it is there, and that it is not frozen. -/
def Bx (w : World) (b : Nat) (vs : List Value) : Prop := Cs w b 0 vs ∧ b < w.heap.size ∧ ∀ j, w.frozen? ⟨b, j, none⟩ = false
theorem bx {w : World} {b : Nat} {vs : List Value} {t : TypeId} (h : w.heap[b]? = some (.cells vs.toArray t (0, 0))) : Bx w b vs :=
  ⟨cs_of w b vs (fun j => by rw [cell_of_row w b j _ _ _ h]; simp) vs 0 (fun j => by simp), lt_of_block h, fun j => frozen_of_row w b j _ _ h⟩
/-! Blocks of so many cells. -/
theorem bx2 {w : World} {b : Nat} {t : TypeId} {v0 v1 : Value} (h : w.heap[b]? = some (.cells #[v0, v1] t (0, 0))) : (w.cell? ⟨b, 0, none⟩ = some v0 ∧ w.cell? ⟨b, 1, none⟩ = some v1) ∧ ∀ j, w.frozen? ⟨b, j, none⟩ = false := by
  have := bx (vs := [v0, v1]) h; simp only [Bx, Cs, Nat.reduceAdd, and_true] at this; exact ⟨this.1, this.2.2⟩
theorem bx3 {w : World} {b : Nat} {t : TypeId} {v0 v1 v2 : Value} (h : w.heap[b]? = some (.cells #[v0, v1, v2] t (0, 0))) : (w.cell? ⟨b, 0, none⟩ = some v0 ∧ w.cell? ⟨b, 1, none⟩ = some v1 ∧ w.cell? ⟨b, 2, none⟩ = some v2) ∧ ∀ j, w.frozen? ⟨b, j, none⟩ = false := by
  have := bx (vs := [v0, v1, v2]) h; simp only [Bx, Cs, Nat.reduceAdd, and_true] at this; exact ⟨this.1, this.2.2⟩
theorem bx4 {w : World} {b : Nat} {t : TypeId} {v0 v1 v2 v3 : Value} (h : w.heap[b]? = some (.cells #[v0, v1, v2, v3] t (0, 0))) : (w.cell? ⟨b, 0, none⟩ = some v0 ∧ w.cell? ⟨b, 1, none⟩ = some v1 ∧ w.cell? ⟨b, 2, none⟩ = some v2 ∧ w.cell? ⟨b, 3, none⟩ = some v3) ∧ ∀ j, w.frozen? ⟨b, j, none⟩ = false := by
  have := bx (vs := [v0, v1, v2, v3]) h; simp only [Bx, Cs, Nat.reduceAdd, and_true] at this; exact ⟨this.1, this.2.2⟩
theorem bx5 {w : World} {b : Nat} {t : TypeId} {v0 v1 v2 v3 v4 : Value} (h : w.heap[b]? = some (.cells #[v0, v1, v2, v3, v4] t (0, 0))) : (w.cell? ⟨b, 0, none⟩ = some v0 ∧ w.cell? ⟨b, 1, none⟩ = some v1 ∧ w.cell? ⟨b, 2, none⟩ = some v2 ∧ w.cell? ⟨b, 3, none⟩ = some v3 ∧ w.cell? ⟨b, 4, none⟩ = some v4) ∧ ∀ j, w.frozen? ⟨b, j, none⟩ = false := by
  have := bx (vs := [v0, v1, v2, v3, v4]) h; simp only [Bx, Cs, Nat.reduceAdd, and_true] at this; exact ⟨this.1, this.2.2⟩
theorem bx6 {w : World} {b : Nat} {t : TypeId} {v0 v1 v2 v3 v4 v5 : Value} (h : w.heap[b]? = some (.cells #[v0, v1, v2, v3, v4, v5] t (0, 0))) : (w.cell? ⟨b, 0, none⟩ = some v0 ∧ w.cell? ⟨b, 1, none⟩ = some v1 ∧ w.cell? ⟨b, 2, none⟩ = some v2 ∧ w.cell? ⟨b, 3, none⟩ = some v3 ∧ w.cell? ⟨b, 4, none⟩ = some v4 ∧ w.cell? ⟨b, 5, none⟩ = some v5) ∧ ∀ j, w.frozen? ⟨b, j, none⟩ = false := by
  have := bx (vs := [v0, v1, v2, v3, v4, v5]) h; simp only [Bx, Cs, Nat.reduceAdd, and_true] at this; exact ⟨this.1, this.2.2⟩
theorem bx7 {w : World} {b : Nat} {t : TypeId} {v0 v1 v2 v3 v4 v5 v6 : Value} (h : w.heap[b]? = some (.cells #[v0, v1, v2, v3, v4, v5, v6] t (0, 0))) : (w.cell? ⟨b, 0, none⟩ = some v0 ∧ w.cell? ⟨b, 1, none⟩ = some v1 ∧ w.cell? ⟨b, 2, none⟩ = some v2 ∧ w.cell? ⟨b, 3, none⟩ = some v3 ∧ w.cell? ⟨b, 4, none⟩ = some v4 ∧ w.cell? ⟨b, 5, none⟩ = some v5 ∧ w.cell? ⟨b, 6, none⟩ = some v6) ∧ ∀ j, w.frozen? ⟨b, j, none⟩ = false := by
  have := bx (vs := [v0, v1, v2, v3, v4, v5, v6]) h; simp only [Bx, Cs, Nat.reduceAdd, and_true] at this; exact ⟨this.1, this.2.2⟩
theorem bx8 {w : World} {b : Nat} {t : TypeId} {v0 v1 v2 v3 v4 v5 v6 v7 : Value} (h : w.heap[b]? = some (.cells #[v0, v1, v2, v3, v4, v5, v6, v7] t (0, 0))) : (w.cell? ⟨b, 0, none⟩ = some v0 ∧ w.cell? ⟨b, 1, none⟩ = some v1 ∧ w.cell? ⟨b, 2, none⟩ = some v2 ∧ w.cell? ⟨b, 3, none⟩ = some v3 ∧ w.cell? ⟨b, 4, none⟩ = some v4 ∧ w.cell? ⟨b, 5, none⟩ = some v5 ∧ w.cell? ⟨b, 6, none⟩ = some v6 ∧ w.cell? ⟨b, 7, none⟩ = some v7) ∧ ∀ j, w.frozen? ⟨b, j, none⟩ = false := by
  have := bx (vs := [v0, v1, v2, v3, v4, v5, v6, v7]) h; simp only [Bx, Cs, Nat.reduceAdd, and_true] at this; exact ⟨this.1, this.2.2⟩
theorem bx9 {w : World} {b : Nat} {t : TypeId} {v0 v1 v2 v3 v4 v5 v6 v7 v8 : Value} (h : w.heap[b]? = some (.cells #[v0, v1, v2, v3, v4, v5, v6, v7, v8] t (0, 0))) : (w.cell? ⟨b, 0, none⟩ = some v0 ∧ w.cell? ⟨b, 1, none⟩ = some v1 ∧ w.cell? ⟨b, 2, none⟩ = some v2 ∧ w.cell? ⟨b, 3, none⟩ = some v3 ∧ w.cell? ⟨b, 4, none⟩ = some v4 ∧ w.cell? ⟨b, 5, none⟩ = some v5 ∧ w.cell? ⟨b, 6, none⟩ = some v6 ∧ w.cell? ⟨b, 7, none⟩ = some v7 ∧ w.cell? ⟨b, 8, none⟩ = some v8) ∧ ∀ j, w.frozen? ⟨b, j, none⟩ = false := by
  have := bx (vs := [v0, v1, v2, v3, v4, v5, v6, v7, v8]) h; simp only [Bx, Cs, Nat.reduceAdd, and_true] at this; exact ⟨this.1, this.2.2⟩
theorem bx10 {w : World} {b : Nat} {t : TypeId} {v0 v1 v2 v3 v4 v5 v6 v7 v8 v9 : Value} (h : w.heap[b]? = some (.cells #[v0, v1, v2, v3, v4, v5, v6, v7, v8, v9] t (0, 0))) : (w.cell? ⟨b, 0, none⟩ = some v0 ∧ w.cell? ⟨b, 1, none⟩ = some v1 ∧ w.cell? ⟨b, 2, none⟩ = some v2 ∧ w.cell? ⟨b, 3, none⟩ = some v3 ∧ w.cell? ⟨b, 4, none⟩ = some v4 ∧ w.cell? ⟨b, 5, none⟩ = some v5 ∧ w.cell? ⟨b, 6, none⟩ = some v6 ∧ w.cell? ⟨b, 7, none⟩ = some v7 ∧ w.cell? ⟨b, 8, none⟩ = some v8 ∧ w.cell? ⟨b, 9, none⟩ = some v9) ∧ ∀ j, w.frozen? ⟨b, j, none⟩ = false := by
  have := bx (vs := [v0, v1, v2, v3, v4, v5, v6, v7, v8, v9]) h; simp only [Bx, Cs, Nat.reduceAdd, and_true] at this; exact ⟨this.1, this.2.2⟩
theorem bx11 {w : World} {b : Nat} {t : TypeId} {v0 v1 v2 v3 v4 v5 v6 v7 v8 v9 v10 : Value} (h : w.heap[b]? = some (.cells #[v0, v1, v2, v3, v4, v5, v6, v7, v8, v9, v10] t (0, 0))) : (w.cell? ⟨b, 0, none⟩ = some v0 ∧ w.cell? ⟨b, 1, none⟩ = some v1 ∧ w.cell? ⟨b, 2, none⟩ = some v2 ∧ w.cell? ⟨b, 3, none⟩ = some v3 ∧ w.cell? ⟨b, 4, none⟩ = some v4 ∧ w.cell? ⟨b, 5, none⟩ = some v5 ∧ w.cell? ⟨b, 6, none⟩ = some v6 ∧ w.cell? ⟨b, 7, none⟩ = some v7 ∧ w.cell? ⟨b, 8, none⟩ = some v8 ∧ w.cell? ⟨b, 9, none⟩ = some v9 ∧ w.cell? ⟨b, 10, none⟩ = some v10) ∧ ∀ j, w.frozen? ⟨b, j, none⟩ = false := by
  have := bx (vs := [v0, v1, v2, v3, v4, v5, v6, v7, v8, v9, v10]) h; simp only [Bx, Cs, Nat.reduceAdd, and_true] at this; exact ⟨this.1, this.2.2⟩
theorem bx12 {w : World} {b : Nat} {t : TypeId} {v0 v1 v2 v3 v4 v5 v6 v7 v8 v9 v10 v11 : Value} (h : w.heap[b]? = some (.cells #[v0, v1, v2, v3, v4, v5, v6, v7, v8, v9, v10, v11] t (0, 0))) : (w.cell? ⟨b, 0, none⟩ = some v0 ∧ w.cell? ⟨b, 1, none⟩ = some v1 ∧ w.cell? ⟨b, 2, none⟩ = some v2 ∧ w.cell? ⟨b, 3, none⟩ = some v3 ∧ w.cell? ⟨b, 4, none⟩ = some v4 ∧ w.cell? ⟨b, 5, none⟩ = some v5 ∧ w.cell? ⟨b, 6, none⟩ = some v6 ∧ w.cell? ⟨b, 7, none⟩ = some v7 ∧ w.cell? ⟨b, 8, none⟩ = some v8 ∧ w.cell? ⟨b, 9, none⟩ = some v9 ∧ w.cell? ⟨b, 10, none⟩ = some v10 ∧ w.cell? ⟨b, 11, none⟩ = some v11) ∧ ∀ j, w.frozen? ⟨b, j, none⟩ = false := by
  have := bx (vs := [v0, v1, v2, v3, v4, v5, v6, v7, v8, v9, v10, v11]) h; simp only [Bx, Cs, Nat.reduceAdd, and_true] at this; exact ⟨this.1, this.2.2⟩
theorem bx13 {w : World} {b : Nat} {t : TypeId} {v0 v1 v2 v3 v4 v5 v6 v7 v8 v9 v10 v11 v12 : Value} (h : w.heap[b]? = some (.cells #[v0, v1, v2, v3, v4, v5, v6, v7, v8, v9, v10, v11, v12] t (0, 0))) : (w.cell? ⟨b, 0, none⟩ = some v0 ∧ w.cell? ⟨b, 1, none⟩ = some v1 ∧ w.cell? ⟨b, 2, none⟩ = some v2 ∧ w.cell? ⟨b, 3, none⟩ = some v3 ∧ w.cell? ⟨b, 4, none⟩ = some v4 ∧ w.cell? ⟨b, 5, none⟩ = some v5 ∧ w.cell? ⟨b, 6, none⟩ = some v6 ∧ w.cell? ⟨b, 7, none⟩ = some v7 ∧ w.cell? ⟨b, 8, none⟩ = some v8 ∧ w.cell? ⟨b, 9, none⟩ = some v9 ∧ w.cell? ⟨b, 10, none⟩ = some v10 ∧ w.cell? ⟨b, 11, none⟩ = some v11 ∧ w.cell? ⟨b, 12, none⟩ = some v12) ∧ ∀ j, w.frozen? ⟨b, j, none⟩ = false := by
  have := bx (vs := [v0, v1, v2, v3, v4, v5, v6, v7, v8, v9, v10, v11, v12]) h; simp only [Bx, Cs, Nat.reduceAdd, and_true] at this; exact ⟨this.1, this.2.2⟩
theorem bx14 {w : World} {b : Nat} {t : TypeId} {v0 v1 v2 v3 v4 v5 v6 v7 v8 v9 v10 v11 v12 v13 : Value} (h : w.heap[b]? = some (.cells #[v0, v1, v2, v3, v4, v5, v6, v7, v8, v9, v10, v11, v12, v13] t (0, 0))) : (w.cell? ⟨b, 0, none⟩ = some v0 ∧ w.cell? ⟨b, 1, none⟩ = some v1 ∧ w.cell? ⟨b, 2, none⟩ = some v2 ∧ w.cell? ⟨b, 3, none⟩ = some v3 ∧ w.cell? ⟨b, 4, none⟩ = some v4 ∧ w.cell? ⟨b, 5, none⟩ = some v5 ∧ w.cell? ⟨b, 6, none⟩ = some v6 ∧ w.cell? ⟨b, 7, none⟩ = some v7 ∧ w.cell? ⟨b, 8, none⟩ = some v8 ∧ w.cell? ⟨b, 9, none⟩ = some v9 ∧ w.cell? ⟨b, 10, none⟩ = some v10 ∧ w.cell? ⟨b, 11, none⟩ = some v11 ∧ w.cell? ⟨b, 12, none⟩ = some v12 ∧ w.cell? ⟨b, 13, none⟩ = some v13) ∧ ∀ j, w.frozen? ⟨b, j, none⟩ = false := by
  have := bx (vs := [v0, v1, v2, v3, v4, v5, v6, v7, v8, v9, v10, v11, v12, v13]) h; simp only [Bx, Cs, Nat.reduceAdd, and_true] at this; exact ⟨this.1, this.2.2⟩
theorem bx15 {w : World} {b : Nat} {t : TypeId} {v0 v1 v2 v3 v4 v5 v6 v7 v8 v9 v10 v11 v12 v13 v14 : Value} (h : w.heap[b]? = some (.cells #[v0, v1, v2, v3, v4, v5, v6, v7, v8, v9, v10, v11, v12, v13, v14] t (0, 0))) : (w.cell? ⟨b, 0, none⟩ = some v0 ∧ w.cell? ⟨b, 1, none⟩ = some v1 ∧ w.cell? ⟨b, 2, none⟩ = some v2 ∧ w.cell? ⟨b, 3, none⟩ = some v3 ∧ w.cell? ⟨b, 4, none⟩ = some v4 ∧ w.cell? ⟨b, 5, none⟩ = some v5 ∧ w.cell? ⟨b, 6, none⟩ = some v6 ∧ w.cell? ⟨b, 7, none⟩ = some v7 ∧ w.cell? ⟨b, 8, none⟩ = some v8 ∧ w.cell? ⟨b, 9, none⟩ = some v9 ∧ w.cell? ⟨b, 10, none⟩ = some v10 ∧ w.cell? ⟨b, 11, none⟩ = some v11 ∧ w.cell? ⟨b, 12, none⟩ = some v12 ∧ w.cell? ⟨b, 13, none⟩ = some v13 ∧ w.cell? ⟨b, 14, none⟩ = some v14) ∧ ∀ j, w.frozen? ⟨b, j, none⟩ = false := by
  have := bx (vs := [v0, v1, v2, v3, v4, v5, v6, v7, v8, v9, v10, v11, v12, v13, v14]) h; simp only [Bx, Cs, Nat.reduceAdd, and_true] at this; exact ⟨this.1, this.2.2⟩
/-- A block stays as it is. -/
theorem sb {w : World} {b : Nat} {x : Obj} (h : w.heap[b]? = some x) : ∀ w', Below w.heap.size w w' → w'.heap[b]? = some x := fun _ q => (q.block b (lt_of_block h)).trans h
theorem sl {w : World} {b : Nat} {x : Obj} (h : w.heap[b]? = some x) : ∀ w', Below w.heap.size w w' → b < w'.heap.size := fun w' q => Nat.lt_of_lt_of_le (lt_of_block h) q.size
theorem bt {a b c : World} (h : Below a.heap.size a b) (k : Below b.heap.size b c) : Below a.heap.size a c := h.trans (k.mono h.size)
theorem br (w : World) : Below w.heap.size w w := Below.refl _ w

/-- From here on. -/
theorem bxr {w : World} {b : Nat} {vs : List Value} {t : TypeId} (h : w.heap[b]? = some (.cells vs.toArray t (0, 0))) : ∀ w', Below w.heap.size w w' → Bx w' b vs :=
  fun _ q => bx ((q.block b (lt_of_block h)).trans h)
/-- A store into a block that is known whole. -/
theorem ss {w : World} {b i : Nat} {t : TypeId} {v : Value} {cs cs' : Array Value} (h : w.heap[b]? = some (.cells cs t (0, 0))) (e : cs.setIfInBounds i v = cs' := by simp) : (w.setCell ⟨b, i, none⟩ v).heap[b]? = some (.cells cs' t (0, 0)) := by
  subst e; exact heap_setCell_same w b i cs t v h
theorem ss2 {w : World} {b i j : Nat} {t : TypeId} {v u : Value} {cs cs' : Array Value} (h : w.heap[b]? = some (.cells cs t (0, 0))) (e : (cs.setIfInBounds i v).setIfInBounds j u = cs' := by simp) : ((w.setCell ⟨b, i, none⟩ v).setCell ⟨b, j, none⟩ u).heap[b]? = some (.cells cs' t (0, 0)) := ss (ss h rfl) e
theorem ss3 {w : World} {b i j k : Nat} {t : TypeId} {v u x : Value} {cs cs' : Array Value} (h : w.heap[b]? = some (.cells cs t (0, 0))) (e : ((cs.setIfInBounds i v).setIfInBounds j u).setIfInBounds k x = cs' := by simp) : (((w.setCell ⟨b, i, none⟩ v).setCell ⟨b, j, none⟩ u).setCell ⟨b, k, none⟩ x).heap[b]? = some (.cells cs' t (0, 0)) := ss (ss2 h rfl) e
end Go.Proofs.YtfiojofcafjfeaaGreat
