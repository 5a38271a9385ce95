/- Regions that draw their order, in few steps: what is taken first is taken all at once; a call in one step. -/
import Derived.Test.YtpegdddffenleaaGreatDoorRegX
set_option linter.unusedSimpArgs false
set_option linter.unusedVariables false
namespace Go.Proofs.YtpegdddffenleaaGreatDoor

section
variable {P : Program} {ops : Array Oper} {Q : Exit → Act → World → Prop} {S : World → Prop} {n : Nat}

/-- How many have not come up yet. -/
def unl (l : Array Bool) : Nat := l.toList.count false
theorem unl_set {l : Array Bool} {i : Nat} (h : l.getD i true = false) : unl l = unl (l.setIfInBounds i true) + 1 := by
  have hi : i < l.size := by
    rcases Nat.lt_or_ge i l.size with h' | h'
    · exact h'
    · simp [Array.getElem?_eq_none h'] at h
  have hl : l.toList[i]'(by simpa using hi) = false := by simpa [hi] using h
  have h0 : List.count false (l.toList.set i true) = List.count false l.toList - 1 := by
    rw [List.count_set (by simpa using hi)]
    simp [hl]
  have h1 : 0 < List.count false l.toList := List.count_pos_iff.2 (by rw [← hl]; exact List.getElem_mem _)
  unfold unl
  rw [Array.toList_setIfInBounds, h0]
  omega
/-- Those that have come up. -/
def marked (m : Nat) (L : List Nat) : Array Bool := L.foldr (fun i l => l.setIfInBounds i true) (Array.replicate m false)

/-! The same questions, asked of the list of those that have come up. -/
theorem marked_size (m : Nat) : ∀ L : List Nat, (marked m L).size = m
  | [] => by simp [marked]
  | a :: L => by simp only [marked, List.foldr_cons, Array.size_setIfInBounds]; exact marked_size m L
theorem marked_get (m i : Nat) (d : Bool) : ∀ L : List Nat, (marked m L).getD i d = if i < m then L.contains i else d
  | [] => by simp only [marked, List.foldr_nil, List.contains_nil]; split <;> simp_all [Array.getElem?_replicate]
  | a :: L => by
    have ih := marked_get m i d L
    have hs := marked_size m L
    show ((marked m L).setIfInBounds a true).getD i d = _
    by_cases h : i < m
    · rw [if_pos h] at ih ⊢
      by_cases ha : a = i
      · subst ha; simp [hs, h]
      · rw [getD_set_ne d ha, ih]; simp [Ne.symm ha]
    · rw [if_neg h] at ih ⊢
      by_cases ha : a = i
      · subst ha; simp [hs, h]
      · rw [getD_set_ne d ha, ih]
def readyF (ops : Array Oper) (L : List Nat) : List Nat :=
  (List.range ops.size).filter fun i => !L.contains i && ((ops[i]?).map (·.after.all fun e => !Region.binds .any e || (L.contains e.on && decide (e.on < ops.size)))).getD false
theorem readyF_eq (L : List Nat) : Region.ready .any ops (marked ops.size L) = readyF ops L := by
  unfold Region.ready readyF
  refine List.filter_congr fun i hi => ?_
  rw [marked_get, if_pos (List.mem_range.1 hi)]
  congr 3
  funext o
  congr 1
  funext e
  rw [marked_get]
  by_cases h : e.on < ops.size <;> simp [h]
def freeF (ops : Array Oper) (L : List Nat) (i : Nat) : Bool :=
  match ops[i]? with
  | none => false
  | some oi => (List.range ops.size).all fun j => j == i || L.contains j || match ops[j]? with
      | some oj => oj.after.any (fun e => Region.binds .any e && e.on == i) || oi.apart ops oj
      | none => true
theorem freeF_eq (L : List Nat) (i : Nat) : Region.free .any ops (marked ops.size L) i = freeF ops L i := by
  unfold Region.free freeF
  cases ops[i]? with
  | none => rfl
  | some oi =>
    dsimp only
    rw [Bool.eq_iff_iff, List.all_eq_true, List.all_eq_true]
    refine forall_congr' fun j => forall_congr' fun hj => ?_
    rw [marked_get, if_pos (List.mem_range.1 hj)]
    exact Iff.rfl
def seqF (ops : Array Oper) : Nat → Nat → List Nat → Bool
  | 0, _, L => (readyF ops L).isEmpty
  | g + 1, k, L => decide (readyF ops L = [k]) && seqF ops g (k + 1) (k :: L)
theorem seqF_eq : ∀ (g k : Nat) (L : List Nat), Region.seqB .any ops g k (marked ops.size L) = seqF ops g k L
  | 0, k, L => by simp only [Region.seqB, seqF, readyF_eq]
  | g + 1, k, L => by
    simp only [Region.seqB, seqF, readyF_eq]
    rw [← seqF_eq g (k + 1) (k :: L)]; rfl

/-- These yield one after the other, in every world that meets S, and leave a'. -/
inductive Ys (P : Program) (ops : Array Oper) (S : World → Prop) : List Nat → Act → Act → Prop
  | nil {a : Act} : Ys P ops S [] a a
  | cons {i : Nat} {is : List Nat} {o : Oper} {v : Value} {a a' : Act} (ho : ops[i]? = some o) (hy : YieldsIf P ops S o v a) (ht : Ys P ops S is (a.put o.dst v) a') : Ys P ops S (i :: is) a a'

/-- Each of them may come up and be taken first. -/
def takesB (ops : Array Oper) : List Nat → List Nat → Bool
  | _, [] => true
  | L, i :: is => (freeF ops L i && (readyF ops L).contains i) && takesB ops (i :: L) is
def takesX (ops : Array Oper) (n : Nat) : List Nat → List Nat → Bool
  | _, [] => true
  | L, i :: is => (Region.waitsFor .any ops n i && decide (i ≠ n) && (decide (n < ops.size) && !L.contains n) && freeF ops L i && (readyF ops L).contains i) && takesX ops n (i :: L) is

/-- A region of which those of L have come up; S holds behind each step. -/
structure HA (P : Program) (ops : Array Oper) (Q : Exit → Act → World → Prop) (S : World → Prop) (L : List Nat) (a : Act) (w : World) : Prop where
  out : wpAnyH P .any ops Q S (unl (marked ops.size L)) (marked ops.size L) a w
/-- The same; S holds till number n has come up. -/
structure XA (P : Program) (ops : Array Oper) (Q : Exit → Act → World → Prop) (S : World → Prop) (n : Nat) (L : List Nat) (a : Act) (w : World) : Prop where
  out : wpAnyX P .any ops Q S n (unl (marked ops.size L)) (marked ops.size L) a w

theorem unl_marked (m : Nat) : unl (marked m []) = m := by simp [unl, marked, List.count_replicate]
theorem HA.go {id : Nat} {a : Act} {w : World} (S : World → Prop) (hm : P.follows .mixedOrders = true) (h : HA P ops Q S [] a w.drew) : (Code.region id ops true).wp P Q a w := by
  refine wp_region_held (S := S) hm ?_
  have h' := h.out
  rw [unl_marked] at h'
  exact h'
theorem XA.go {id : Nat} {a : Act} {w : World} (n : Nat) (S : World → Prop) (hm : P.follows .mixedOrders = true) (h : XA P ops Q S n [] a w.drew) : (Code.region id ops true).wp P Q a w := by
  refine wp_region_X n S hm ?_
  have h' := h.out
  rw [unl_marked] at h'
  exact h'
theorem marked_ready {L : List Nat} {i : Nat} (h : (readyF ops L).contains i = true) : unl (marked ops.size L) = unl (marked ops.size (i :: L)) + 1 :=
  unl_set (mem_ready.1 (show i ∈ Region.ready .any ops (marked ops.size L) by rw [readyF_eq]; simpa using h)).1

theorem HA.takes (hs : Region.noSelect ops = true) (hQ : ∀ c a w d v, Q (.panic c) (Act.put a d v) w → Q (.panic c) a w) {w : World} (hS : S w) :
    ∀ (is : List Nat) {L : List Nat} {a a' : Act}, takesB ops L is = true → Ys P ops S is a a' → HA P ops Q S (is.reverse ++ L) a' w → HA P ops Q S L a w
  | [], _, _, _, _, .nil, h => h
  | i :: is, L, a, a', hc, .cons ho hy ht, h => by
    simp only [takesB, Bool.and_eq_true] at hc
    have h2 := HA.takes hs hQ hS is (L := i :: L) hc.2 ht (by simpa using h)
    refine ⟨?_⟩
    rw [marked_ready hc.1.2]
    exact wpAnyH_take ho hs (by rw [freeF_eq]; exact hc.1.1) (by rw [readyF_eq]; exact hc.1.2) (fun c a w => hQ c a w _ _) hy hS h2.out
theorem XA.takes (hs : Region.noSelect ops = true) (hQ : ∀ c a w d v, Q (.panic c) (Act.put a d v) w → Q (.panic c) a w) {w : World} (hS : S w) :
    ∀ (is : List Nat) {L : List Nat} {a a' : Act}, takesX ops n L is = true → Ys P ops S is a a' → XA P ops Q S n (is.reverse ++ L) a' w → XA P ops Q S n L a w
  | [], _, _, _, _, .nil, h => h
  | i :: is, L, a, a', hc, .cons ho hy ht, h => by
    simp only [takesX, Bool.and_eq_true, decide_eq_true_eq, Bool.not_eq_true'] at hc
    have h2 := XA.takes hs hQ hS is (L := i :: L) hc.2 ht (by simpa using h)
    refine ⟨?_⟩
    rw [marked_ready hc.1.2]
    exact wpAnyX_take ho hc.1.1.1.1.1 hc.1.1.1.1.2 (by rw [marked_get, if_pos hc.1.1.1.2.1, hc.1.1.1.2.2]) hs (by rw [freeF_eq]; exact hc.1.1.2) (by rw [readyF_eq]; exact hc.1.2) (fun c a w => hQ c a w _ _) hy hS h2.out
/-- Those that yield in whatever world. -/
def takes0 (ops : Array Oper) (n : Nat) : List Nat → List Nat → Bool
  | _, [] => true
  | L, i :: is => (decide (i ≠ n) && freeF ops L i && (readyF ops L).contains i) && takes0 ops n (i :: L) is
theorem XA.takes0 (hs : Region.noSelect ops = true) (hQ : ∀ c a w d v, Q (.panic c) (Act.put a d v) w → Q (.panic c) a w) {w : World} (hS : S w) :
    ∀ (is : List Nat) {L : List Nat} {a a' : Act}, YtpegdddffenleaaGreatDoor.takes0 ops n L is = true → Ys P ops (fun _ => True) is a a' → XA P ops Q S n (is.reverse ++ L) a' w → XA P ops Q S n L a w
  | [], _, _, _, _, .nil, h => h
  | i :: is, L, a, a', hc, .cons ho hy ht, h => by
    simp only [YtpegdddffenleaaGreatDoor.takes0, Bool.and_eq_true, decide_eq_true_eq] at hc
    have h2 := XA.takes0 hs hQ hS is (L := i :: L) hc.2 ht (by simpa using h)
    refine ⟨?_⟩
    rw [marked_ready hc.1.2]
    exact wpAnyX_take0 ho hc.1.1.1 hs (by rw [freeF_eq]; exact hc.1.1.2) (by rw [readyF_eq]; exact hc.1.2) (fun c a w => hQ c a w _ _) hy hS h2.out

theorem ready_one {L : List Nat} {i : Nat} (hr : readyF ops L = [i]) : unl (marked ops.size L) = unl (marked ops.size (i :: L)) + 1 :=
  marked_ready (by rw [hr]; simp)
/-- The one that comes up. -/
theorem HA.one {L : List Nat} {a : Act} {w : World} (i : Nat) {o : Oper} (ho : ops[i]? = some o) (hr : readyF ops L = [i])
    (h : ∀ K' : Act → World → Prop, Shut (∀ a w, S w → (S w → HA P ops Q S (i :: L) a w) → K' a w) → if Region.wanted o (yielded ops a.tmps) = true then Oper.wp P o a w K' Q else K' (a.put o.dst undef) w) : HA P ops Q S L a w := by
  refine ⟨?_⟩
  rw [ready_one hr]
  exact wpAnyH_ready (by rw [readyF_eq]; exact hr) (by simp) (AllReadyH.cons ho (fun K' hK => h K' fun a w hS hw => hK.out a w hS fun hS' => (hw hS').out) AllReadyH.nil)
theorem XA.one {L : List Nat} {a : Act} {w : World} (i : Nat) {o : Oper} (ho : ops[i]? = some o) (hr : readyF ops L = [i])
    (h : ∀ K' : Act → World → Prop, Shut (∀ a w, S w → (S w → XA P ops Q S n (i :: L) a w) → K' a w) → if Region.wanted o (yielded ops a.tmps) = true then Oper.wp P o a w K' Q else K' (a.put o.dst undef) w) : XA P ops Q S n L a w := by
  refine ⟨?_⟩
  rw [ready_one hr]
  exact wpAnyX_ready (by rw [readyF_eq]; exact hr) (by simp) (AllReadyX.cons ho (fun K' hK => h K' fun a w hS hw => hK.out a w hS fun hS' => (hw hS').out) AllReadyX.nil)
/-- A call that comes up. -/
theorem HA.call {L : List Nat} {a : Act} {w : World} (i : Nat) {f : FuncId} {args : Array Value} {R : Ending → World → Prop} (hc : Calls P f args w R) {o : Oper} (ho : ops[i]? = some o) (hr : readyF ops L = [i])
    (hw : Region.wanted o (yielded ops a.tmps) = true) (he : (execOp a.eval o).run P w = .ok (.enter f args) w)
    (k : ∀ e w', R e w' → ∃ v, e = .returned v ∧ S w' ∧ (S w' → HA P ops Q S (i :: L) (a.put o.dst v) w')) : HA P ops Q S L a w := by
  refine HA.one i ho hr fun K' hK => ?_
  rw [if_pos hw]
  unfold Oper.wp
  rw [he]
  refine hc.mono fun e w' hR => ?_
  obtain ⟨v, rfl, hS, h⟩ := k e w' hR
  exact hK.out _ _ hS h
theorem XA.call {L : List Nat} {a : Act} {w : World} (i : Nat) {f : FuncId} {args : Array Value} {R : Ending → World → Prop} (hc : Calls P f args w R) {o : Oper} (ho : ops[i]? = some o) (hr : readyF ops L = [i])
    (hw : Region.wanted o (yielded ops a.tmps) = true) (he : (execOp a.eval o).run P w = .ok (.enter f args) w)
    (k : ∀ e w', R e w' → ∃ v, e = .returned v ∧ S w' ∧ (S w' → XA P ops Q S n (i :: L) (a.put o.dst v) w')) : XA P ops Q S n L a w := by
  refine XA.one i ho hr fun K' hK => ?_
  rw [if_pos hw]
  unfold Oper.wp
  rw [he]
  refine hc.mono fun e w' hR => ?_
  obtain ⟨v, rfl, hS, h⟩ := k e w' hR
  exact hK.out _ _ hS h
theorem HA.done {L : List Nat} {a : Act} {w : World} (hr : readyF ops L = []) (h : Q .normal a w) : HA P ops Q S L a w := ⟨wpAnyH_done (by rw [readyF_eq]; exact hr) h _⟩
/-- The end, one after the other. -/
theorem XA.tail {l : List Oper} {L : List Nat} {a : Act} {w : World} (hf : unl (marked l.toArray.size L) = (l.drop n).length) (hB : seqF l.toArray (l.drop n).length n L = true) (h : wpList P l.toArray Q (l.drop n) a w) :
    XA P l.toArray Q S n L a w := by
  refine ⟨?_⟩
  exact wpAnyX_tail hf (by rw [seqF_eq]; exact hB) h

/-! The same with what is always said alike left to be found. -/
theorem HA.g {id : Nat} {a : Act} {w : World} (S : World → Prop) (h : HA P ops Q S [] a w.drew) (hm : P.follows .mixedOrders = true := by decide +kernel) : (Code.region id ops true).wp P Q a w := HA.go S hm h
theorem XA.g {id : Nat} {a : Act} {w : World} (n : Nat) (S : World → Prop) (h : XA P ops Q S n [] a w.drew) (hm : P.follows .mixedOrders = true := by decide +kernel) : (Code.region id ops true).wp P Q a w := XA.go n S hm h
theorem HA.t (a' : Act) (is : List Nat) {L : List Nat} {a : Act} {w : World} (hS : S w) (h : HA P ops Q S (is.reverse ++ L) a' w)
    (hs : Region.noSelect ops = true := by decide +kernel) (hQ : ∀ c a w d v, Q (.panic c) (Act.put a d v) w → Q (.panic c) a w := by (intro _ _ _ d _ h; cases d <;> exact h)) (hc : takesB ops L is = true := by decide +kernel)
    (hy : Ys P ops S is a a' := by (try simp only [List.getElem_toArray, List.getElem_cons_succ, List.getElem_cons_zero, Act.put, List.setIfInBounds_toArray, List.set_cons_zero, List.set_cons_succ]); (repeat ((first | (refine Ys.cons (v := ?_) (by (simp only [List.getElem?_toArray, List.getElem?_cons_succ, List.getElem?_cons_zero]; rfl)) (Or.inl ⟨by rfl, ?_⟩) ?_; rotate_left; (· (intro w9 hS9; (try dsimp only at hS9); (try (have u9 := bx15 hS9.1)); go_simp; (try with_reducible rfl)))) | refine Ys.cons (v := undef) (by (simp only [List.getElem?_toArray, List.getElem?_cons_succ, List.getElem?_cons_zero]; rfl)) (Or.inr ⟨by rfl, rfl⟩) ?_); simp only [List.getElem_toArray, List.getElem_cons_succ, List.getElem_cons_zero, Act.put, List.setIfInBounds_toArray, List.set_cons_zero, List.set_cons_succ])); exact Ys.nil) : HA P ops Q S L a w := HA.takes hs hQ hS is hc hy h
theorem XA.t (a' : Act) (is : List Nat) {L : List Nat} {a : Act} {w : World} (hS : S w) (h : XA P ops Q S n (is.reverse ++ L) a' w)
    (hs : Region.noSelect ops = true := by decide +kernel) (hQ : ∀ c a w d v, Q (.panic c) (Act.put a d v) w → Q (.panic c) a w := by (intro _ _ _ d _ h; cases d <;> exact h)) (hc : takesX ops n L is = true := by decide +kernel)
    (hy : Ys P ops S is a a' := by (try simp only [List.getElem_toArray, List.getElem_cons_succ, List.getElem_cons_zero, Act.put, List.setIfInBounds_toArray, List.set_cons_zero, List.set_cons_succ]); (repeat ((first | (refine Ys.cons (v := ?_) (by (simp only [List.getElem?_toArray, List.getElem?_cons_succ, List.getElem?_cons_zero]; rfl)) (Or.inl ⟨by rfl, ?_⟩) ?_; rotate_left; (· (intro w9 hS9; (try dsimp only at hS9); (try (have u9 := bx15 hS9.1)); go_simp; (try with_reducible rfl)))) | refine Ys.cons (v := undef) (by (simp only [List.getElem?_toArray, List.getElem?_cons_succ, List.getElem?_cons_zero]; rfl)) (Or.inr ⟨by rfl, rfl⟩) ?_); simp only [List.getElem_toArray, List.getElem_cons_succ, List.getElem_cons_zero, Act.put, List.setIfInBounds_toArray, List.set_cons_zero, List.set_cons_succ])); exact Ys.nil) : XA P ops Q S n L a w := XA.takes hs hQ hS is hc hy h
theorem XA.t0 (a' : Act) (is : List Nat) {L : List Nat} {a : Act} {w : World} (hS : S w) (h : XA P ops Q S n (is.reverse ++ L) a' w)
    (hs : Region.noSelect ops = true := by decide +kernel) (hQ : ∀ c a w d v, Q (.panic c) (Act.put a d v) w → Q (.panic c) a w := by (intro _ _ _ d _ h; cases d <;> exact h)) (hc : YtpegdddffenleaaGreatDoor.takes0 ops n L is = true := by decide +kernel)
    (hy : Ys P ops (fun _ => True) is a a' := by (try simp only [List.getElem_toArray, List.getElem_cons_succ, List.getElem_cons_zero, Act.put, List.setIfInBounds_toArray, List.set_cons_zero, List.set_cons_succ]); (repeat ((first | (refine Ys.cons (v := ?_) (by (simp only [List.getElem?_toArray, List.getElem?_cons_succ, List.getElem?_cons_zero]; rfl)) (Or.inl ⟨by rfl, ?_⟩) ?_; rotate_left; (· (intro w9 _; go_simp; (try with_reducible rfl)))) | refine Ys.cons (v := undef) (by (simp only [List.getElem?_toArray, List.getElem?_cons_succ, List.getElem?_cons_zero]; rfl)) (Or.inr ⟨by rfl, rfl⟩) ?_); simp only [List.getElem_toArray, List.getElem_cons_succ, List.getElem_cons_zero, Act.put, List.setIfInBounds_toArray, List.set_cons_zero, List.set_cons_succ])); exact Ys.nil) : XA P ops Q S n L a w := XA.takes0 hs hQ hS is hc hy h
theorem HA.c {L : List Nat} {a : Act} {w : World} (i : Nat) {f : FuncId} {args : Array Value} {R : Ending → World → Prop} {o : Oper} (hc : Calls P f args w R)
    (k : ∀ e w', R e w' → ∃ v, e = .returned v ∧ S w' ∧ (S w' → HA P ops Q S (i :: L) (a.put o.dst v) w')) (ho : ops[i]? = some o := by (simp only [List.getElem?_toArray, List.getElem?_cons_succ, List.getElem?_cons_zero]; rfl)) (hr : readyF ops L = [i] := by decide +kernel)
    (hw : Region.wanted o (yielded ops a.tmps) = true := by rfl) (he : (execOp a.eval o).run P w = .ok (.enter f args) w := by go_simp) : HA P ops Q S L a w := HA.call i hc ho hr hw he k
theorem XA.c {L : List Nat} {a : Act} {w : World} (i : Nat) {f : FuncId} {args : Array Value} {R : Ending → World → Prop} {o : Oper} (hc : Calls P f args w R)
    (k : ∀ e w', R e w' → ∃ v, e = .returned v ∧ S w' ∧ (S w' → XA P ops Q S n (i :: L) (a.put o.dst v) w')) (ho : ops[i]? = some o := by (simp only [List.getElem?_toArray, List.getElem?_cons_succ, List.getElem?_cons_zero]; rfl)) (hr : readyF ops L = [i] := by decide +kernel)
    (hw : Region.wanted o (yielded ops a.tmps) = true := by rfl) (he : (execOp a.eval o).run P w = .ok (.enter f args) w := by go_simp) : XA P ops Q S n L a w := XA.call i hc ho hr hw he k
theorem HA.d {L : List Nat} {a : Act} {w : World} (h : Q .normal a w) (hr : readyF ops L = [] := by decide +kernel) : HA P ops Q S L a w := ⟨wpAnyH_done (by rw [readyF_eq]; exact hr) h _⟩
theorem XA.e {l : List Oper} {L : List Nat} {a : Act} {w : World} (h : wpList P l.toArray Q (l.drop n) a w) (hf : unl (marked l.toArray.size L) = (l.drop n).length := by rfl) (hB : seqF l.toArray (l.drop n).length n L = true := by decide +kernel) :
    XA P l.toArray Q S n L a w := XA.tail hf hB h
/-- The one that comes up, whatever it does. -/
theorem HA.o {L : List Nat} {a : Act} {w : World} {o : Oper} (i : Nat)
    (h : ∀ K' : Act → World → Prop, Shut (∀ a w, S w → (S w → HA P ops Q S (i :: L) a w) → K' a w) → if Region.wanted o (yielded ops a.tmps) = true then Oper.wp P o a w K' Q else K' (a.put o.dst undef) w)
    (ho : ops[i]? = some o := by (simp only [List.getElem?_toArray, List.getElem?_cons_succ, List.getElem?_cons_zero]; rfl)) (hr : readyF ops L = [i] := by decide +kernel) : HA P ops Q S L a w := HA.one i ho hr h
theorem XA.o {L : List Nat} {a : Act} {w : World} {o : Oper} (i : Nat)
    (h : ∀ K' : Act → World → Prop, Shut (∀ a w, S w → (S w → XA P ops Q S n (i :: L) a w) → K' a w) → if Region.wanted o (yielded ops a.tmps) = true then Oper.wp P o a w K' Q else K' (a.put o.dst undef) w)
    (ho : ops[i]? = some o := by (simp only [List.getElem?_toArray, List.getElem?_cons_succ, List.getElem?_cons_zero]; rfl)) (hr : readyF ops L = [i] := by decide +kernel) : XA P ops Q S n L a w := XA.one i ho hr h
/-- A step that comes up and gives nothing back: a store. -/
theorem HA.s {L : List Nat} {a : Act} {w : World} {o : Oper} (i : Nat) (w' : World) (hS : S w') (k : HA P ops Q S (i :: L) (a.put o.dst undef) w') (ho : ops[i]? = some o := by (simp only [List.getElem?_toArray, List.getElem?_cons_succ, List.getElem?_cons_zero]; rfl))
    (hr : readyF ops L = [i] := by decide +kernel) (hw : Region.wanted o (yielded ops a.tmps) = true := by rfl) (he : (execOp a.eval o).run P w = .ok .skip w' := by go_simp) : HA P ops Q S L a w := by
  refine HA.one i ho hr fun K' hK => ?_
  rw [if_pos hw]
  unfold Oper.wp
  rw [he]
  exact hK.out _ _ hS fun _ => k
/-- A step that comes up and gives a value: an alloc. -/
theorem HA.v {L : List Nat} {a : Act} {w : World} {o : Oper} (i : Nat) (w' : World) (v : Value) (hS : S w') (k : HA P ops Q S (i :: L) (a.put o.dst v) w') (ho : ops[i]? = some o := by (simp only [List.getElem?_toArray, List.getElem?_cons_succ, List.getElem?_cons_zero]; rfl))
    (hr : readyF ops L = [i] := by decide +kernel) (hw : Region.wanted o (yielded ops a.tmps) = true := by rfl) (he : (execOp a.eval o).run P w = .ok (.value v) w' := by go_simp) : HA P ops Q S L a w := by
  refine HA.one i ho hr fun K' hK => ?_
  rw [if_pos hw]
  unfold Oper.wp
  rw [he]
  exact hK.out _ _ hS fun _ => k
end
end Go.Proofs.YtpegdddffenleaaGreatDoor
