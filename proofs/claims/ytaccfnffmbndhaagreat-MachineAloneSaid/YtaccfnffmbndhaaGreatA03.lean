/- Regions that draw their order, in few steps: what is taken first is taken all at once; a call in one step. The product of two fixed-point numbers, in plain arithmetic: no program. Vectors of fixed-point numbers, in plain lists. Blocks and epochs, in plain numbers. The layout of the parameters of a network, in plain numbers. No condition. -/
import Derived.Test.YtaccfnffmbndhaaGreatA02
import Derived.RowKit
import Derived.Test.YtaccfnffmbndhaaGreatA01
set_option linter.unusedSimpArgs false
set_option linter.unusedVariables false
namespace Go.Proofs.YtaccfnffmbndhaaGreat
section
variable {P:Program} {ops:Array Oper} {Q:Exit → Act → World → Prop} {S:World → Prop} {n:Nat}
def unl (l:Array Bool):Nat:=l.toList.count false
theorem unl_set {l:Array Bool} {i:Nat} (h:l.getD i true = false):unl l = unl (l.setIfInBounds i true) + 1:=by
  have hi:i < l.size:=by
    rcases Nat.lt_or_ge i l.size with h' | h'
    · exact h'
    · simp [Array.getElem?_eq_none h'] at h
  have hl:l.toList[i]'(by simpa using hi) = false:=by simpa [hi] using h
  have h0:List.count false (l.toList.set i true) = List.count false l.toList - 1:=by
    rw [List.count_set (by simpa using hi)]
    simp [hl]
  have h1:0 < List.count false l.toList:=List.count_pos_iff.2 (by rw [← hl];exact List.getElem_mem _)
  unfold unl
  rw [Array.toList_setIfInBounds,h0]
  omega
def marked (m:Nat) (L:List Nat):Array Bool:=L.foldr (fun i l => l.setIfInBounds i true) (Array.replicate m false)
theorem marked_size (m:Nat):∀ L:List Nat,(marked m L).size = m
  | [] => by simp [marked]
  | a :: L => by simp only [marked,List.foldr_cons,Array.size_setIfInBounds];exact marked_size m L
theorem marked_get (m i:Nat) (d:Bool):∀ L:List Nat,(marked m L).getD i d = if i < m then L.contains i else d
  | [] => by simp only [marked,List.foldr_nil,List.contains_nil];split <;> simp_all [Array.getElem?_replicate]
  | a :: L => by
    have ih:=marked_get m i d L
    have hs:=marked_size m L
    show ((marked m L).setIfInBounds a true).getD i d = _
    by_cases h:i < m
    · rw [if_pos h] at ih ⊢
      by_cases ha:a = i
      · subst ha;simp [hs,h]
      · rw [getD_set_ne d ha,ih];simp [Ne.symm ha]
    · rw [if_neg h] at ih ⊢
      by_cases ha:a = i
      · subst ha;simp [hs,h]
      · rw [getD_set_ne d ha,ih]
def readyF (ops:Array Oper) (L:List Nat):List Nat:=
  (List.range ops.size).filter fun i => !L.contains i && ((ops[i]?).map (·.after.all fun e => !Region.binds .any e || (L.contains e.on && decide (e.on < ops.size)))).getD false
theorem readyF_eq (L:List Nat):Region.ready .any ops (marked ops.size L) = readyF ops L:=by
  unfold Region.ready readyF
  refine List.filter_congr fun i hi => ?_
  rw [marked_get,if_pos (List.mem_range.1 hi)]
  congr 3
  funext o
  congr 1
  funext e
  rw [marked_get]
  by_cases h:e.on < ops.size <;> simp [h]
def freeF (ops:Array Oper) (L:List Nat) (i:Nat):Bool:=
  match ops[i]? with
  | none => false
  | some oi => (List.range ops.size).all fun j => j == i || L.contains j || match ops[j]? with
      | some oj => oj.after.any (fun e => Region.binds .any e && e.on == i) || oi.apart ops oj
      | none => true
theorem freeF_eq (L:List Nat) (i:Nat):Region.free .any ops (marked ops.size L) i = freeF ops L i:=by
  unfold Region.free freeF
  cases ops[i]? with
  | none => rfl
  | some oi =>
    dsimp only
    rw [Bool.eq_iff_iff,List.all_eq_true,List.all_eq_true]
    refine forall_congr' fun j => forall_congr' fun hj => ?_
    rw [marked_get,if_pos (List.mem_range.1 hj)]
    exact Iff.rfl
def seqF (ops:Array Oper):Nat → Nat → List Nat → Bool
  | 0,_,L => (readyF ops L).isEmpty
  | g + 1,k,L => decide (readyF ops L = [k]) && seqF ops g (k + 1) (k :: L)
theorem seqF_eq:∀ (g k:Nat) (L:List Nat),Region.seqB .any ops g k (marked ops.size L) = seqF ops g k L
  | 0,k,L => by simp only [Region.seqB,seqF,readyF_eq]
  | g + 1,k,L => by
    simp only [Region.seqB,seqF,readyF_eq]
    rw [← seqF_eq g (k + 1) (k :: L)];rfl
inductive Ys (P:Program) (ops:Array Oper) (S:World → Prop):List Nat → Act → Act → Prop
  | nil {a:Act}:Ys P ops S [] a a
  | cons {i:Nat} {is:List Nat} {o:Oper} {v:Value} {a a':Act} (ho:ops[i]? = some o) (hy:YieldsIf P ops S o v a) (ht:Ys P ops S is (a.put o.dst v) a'):Ys P ops S (i :: is) a a'
def takesB (ops:Array Oper):List Nat → List Nat → Bool
  | _,[] => true
  | L,i :: is => (freeF ops L i && (readyF ops L).contains i) && takesB ops (i :: L) is
def takesX (ops:Array Oper) (n:Nat):List Nat → List Nat → Bool
  | _,[] => true
  | L,i :: is => (Region.waitsFor .any ops n i && decide (i ≠ n) && (decide (n < ops.size) && !L.contains n) && freeF ops L i && (readyF ops L).contains i) && takesX ops n (i :: L) is
structure HA (P:Program) (ops:Array Oper) (Q:Exit → Act → World → Prop) (S:World → Prop) (L:List Nat) (a:Act) (w:World):Prop where
  out:wpAnyH P .any ops Q S (unl (marked ops.size L)) (marked ops.size L) a w
structure XA (P:Program) (ops:Array Oper) (Q:Exit → Act → World → Prop) (S:World → Prop) (n:Nat) (L:List Nat) (a:Act) (w:World):Prop where
  out:wpAnyX P .any ops Q S n (unl (marked ops.size L)) (marked ops.size L) a w
theorem unl_marked (m:Nat):unl (marked m []) = m:=by simp [unl,marked,List.count_replicate]
theorem HA.go {id:Nat} {a:Act} {w:World} (S:World → Prop) (hm:P.follows .mixedOrders = true) (h:HA P ops Q S [] a w.drew):(Code.region id ops true).wp P Q a w:=by
  refine wp_region_held (S:=S) hm ?_
  have h':=h.out
  rw [unl_marked] at h'
  exact h'
theorem XA.go {id:Nat} {a:Act} {w:World} (n:Nat) (S:World → Prop) (hm:P.follows .mixedOrders = true) (h:XA P ops Q S n [] a w.drew):(Code.region id ops true).wp P Q a w:=by
  refine wp_region_X n S hm ?_
  have h':=h.out
  rw [unl_marked] at h'
  exact h'
theorem marked_ready {L:List Nat} {i:Nat} (h:(readyF ops L).contains i = true):unl (marked ops.size L) = unl (marked ops.size (i :: L)) + 1:=
  unl_set (mem_ready.1 (show i ∈ Region.ready .any ops (marked ops.size L) by rw [readyF_eq];simpa using h)).1
theorem HA.takes (hs:Region.noSelect ops = true) (hQ:∀ c a w d v,Q (.panic c) (Act.put a d v) w → Q (.panic c) a w) {w:World} (hS:S w) :
    ∀ (is:List Nat) {L:List Nat} {a a':Act},takesB ops L is = true → Ys P ops S is a a' → HA P ops Q S (is.reverse ++ L) a' w → HA P ops Q S L a w
  | [],_,_,_,_,.nil,h => h
  | i :: is,L,a,a',hc,.cons ho hy ht,h => by
    simp only [takesB,Bool.and_eq_true] at hc
    have h2:=HA.takes hs hQ hS is (L:=i :: L) hc.2 ht (by simpa using h)
    refine ⟨?_⟩
    rw [marked_ready hc.1.2]
    exact wpAnyH_take ho hs (by rw [freeF_eq];exact hc.1.1) (by rw [readyF_eq];exact hc.1.2) (fun c a w => hQ c a w _ _) hy hS h2.out
theorem XA.takes (hs:Region.noSelect ops = true) (hQ:∀ c a w d v,Q (.panic c) (Act.put a d v) w → Q (.panic c) a w) {w:World} (hS:S w) :
    ∀ (is:List Nat) {L:List Nat} {a a':Act},takesX ops n L is = true → Ys P ops S is a a' → XA P ops Q S n (is.reverse ++ L) a' w → XA P ops Q S n L a w
  | [],_,_,_,_,.nil,h => h
  | i :: is,L,a,a',hc,.cons ho hy ht,h => by
    simp only [takesX,Bool.and_eq_true,decide_eq_true_eq,Bool.not_eq_true'] at hc
    have h2:=XA.takes hs hQ hS is (L:=i :: L) hc.2 ht (by simpa using h)
    refine ⟨?_⟩
    rw [marked_ready hc.1.2]
    exact wpAnyX_take ho hc.1.1.1.1.1 hc.1.1.1.1.2 (by rw [marked_get,if_pos hc.1.1.1.2.1,hc.1.1.1.2.2]) hs (by rw [freeF_eq];exact hc.1.1.2) (by rw [readyF_eq];exact hc.1.2) (fun c a w => hQ c a w _ _) hy hS h2.out
def takes0 (ops:Array Oper) (n:Nat):List Nat → List Nat → Bool
  | _,[] => true
  | L,i :: is => (decide (i ≠ n) && freeF ops L i && (readyF ops L).contains i) && takes0 ops n (i :: L) is
theorem XA.takes0 (hs:Region.noSelect ops = true) (hQ:∀ c a w d v,Q (.panic c) (Act.put a d v) w → Q (.panic c) a w) {w:World} (hS:S w) :
    ∀ (is:List Nat) {L:List Nat} {a a':Act},YtaccfnffmbndhaaGreat.takes0 ops n L is = true → Ys P ops (fun _ => True) is a a' → XA P ops Q S n (is.reverse ++ L) a' w → XA P ops Q S n L a w
  | [],_,_,_,_,.nil,h => h
  | i :: is,L,a,a',hc,.cons ho hy ht,h => by
    simp only [YtaccfnffmbndhaaGreat.takes0,Bool.and_eq_true,decide_eq_true_eq] at hc
    have h2:=XA.takes0 hs hQ hS is (L:=i :: L) hc.2 ht (by simpa using h)
    refine ⟨?_⟩
    rw [marked_ready hc.1.2]
    exact wpAnyX_take0 ho hc.1.1.1 hs (by rw [freeF_eq];exact hc.1.1.2) (by rw [readyF_eq];exact hc.1.2) (fun c a w => hQ c a w _ _) hy hS h2.out
theorem ready_one {L:List Nat} {i:Nat} (hr:readyF ops L = [i]):unl (marked ops.size L) = unl (marked ops.size (i :: L)) + 1:=
  marked_ready (by rw [hr];simp)
theorem HA.one {L:List Nat} {a:Act} {w:World} (i:Nat) {o:Oper} (ho:ops[i]? = some o) (hr:readyF ops L = [i])
    (h:∀ K':Act → World → Prop,Shut (∀ a w,S w → (S w → HA P ops Q S (i :: L) a w) → K' a w) → if Region.wanted o (yielded ops a.tmps) = true then Oper.wp P o a w K' Q else K' (a.put o.dst undef) w):HA P ops Q S L a w:=by
  refine ⟨?_⟩
  rw [ready_one hr]
  exact wpAnyH_ready (by rw [readyF_eq];exact hr) (by simp) (AllReadyH.cons ho (fun K' hK => h K' fun a w hS hw => hK.out a w hS fun hS' => (hw hS').out) AllReadyH.nil)
theorem XA.one {L:List Nat} {a:Act} {w:World} (i:Nat) {o:Oper} (ho:ops[i]? = some o) (hr:readyF ops L = [i])
    (h:∀ K':Act → World → Prop,Shut (∀ a w,S w → (S w → XA P ops Q S n (i :: L) a w) → K' a w) → if Region.wanted o (yielded ops a.tmps) = true then Oper.wp P o a w K' Q else K' (a.put o.dst undef) w):XA P ops Q S n L a w:=by
  refine ⟨?_⟩
  rw [ready_one hr]
  exact wpAnyX_ready (by rw [readyF_eq];exact hr) (by simp) (AllReadyX.cons ho (fun K' hK => h K' fun a w hS hw => hK.out a w hS fun hS' => (hw hS').out) AllReadyX.nil)
theorem HA.call {L:List Nat} {a:Act} {w:World} (i:Nat) {f:FuncId} {args:Array Value} {R:Ending → World → Prop} (hc:Calls P f args w R) {o:Oper} (ho:ops[i]? = some o) (hr:readyF ops L = [i])
    (hw:Region.wanted o (yielded ops a.tmps) = true) (he:(execOp a.eval o).run P w = .ok (.enter f args) w)
    (k:∀ e w',R e w' → ∃ v,e = .returned v ∧ S w' ∧ (S w' → HA P ops Q S (i :: L) (a.put o.dst v) w')):HA P ops Q S L a w:=by
  refine HA.one i ho hr fun K' hK => ?_
  rw [if_pos hw]
  unfold Oper.wp
  rw [he]
  refine hc.mono fun e w' hR => ?_
  obtain ⟨v,rfl,hS,h⟩:=k e w' hR
  exact hK.out _ _ hS h
theorem XA.call {L:List Nat} {a:Act} {w:World} (i:Nat) {f:FuncId} {args:Array Value} {R:Ending → World → Prop} (hc:Calls P f args w R) {o:Oper} (ho:ops[i]? = some o) (hr:readyF ops L = [i])
    (hw:Region.wanted o (yielded ops a.tmps) = true) (he:(execOp a.eval o).run P w = .ok (.enter f args) w)
    (k:∀ e w',R e w' → ∃ v,e = .returned v ∧ S w' ∧ (S w' → XA P ops Q S n (i :: L) (a.put o.dst v) w')):XA P ops Q S n L a w:=by
  refine XA.one i ho hr fun K' hK => ?_
  rw [if_pos hw]
  unfold Oper.wp
  rw [he]
  refine hc.mono fun e w' hR => ?_
  obtain ⟨v,rfl,hS,h⟩:=k e w' hR
  exact hK.out _ _ hS h
theorem XA.tail {l:List Oper} {L:List Nat} {a:Act} {w:World} (hf:unl (marked l.toArray.size L) = (l.drop n).length) (hB:seqF l.toArray (l.drop n).length n L = true) (h:wpList P l.toArray Q (l.drop n) a w) :
    XA P l.toArray Q S n L a w:=by
  refine ⟨?_⟩
  exact wpAnyX_tail hf (by rw [seqF_eq];exact hB) h
theorem HA.g {id:Nat} {a:Act} {w:World} (S:World → Prop) (h:HA P ops Q S [] a w.drew) (hm:P.follows .mixedOrders = true:=by decide +kernel):(Code.region id ops true).wp P Q a w:=HA.go S hm h
theorem XA.g {id:Nat} {a:Act} {w:World} (n:Nat) (S:World → Prop) (h:XA P ops Q S n [] a w.drew) (hm:P.follows .mixedOrders = true:=by decide +kernel):(Code.region id ops true).wp P Q a w:=XA.go n S hm h
theorem HA.t (a':Act) (is:List Nat) {L:List Nat} {a:Act} {w:World} (hS:S w) (h:HA P ops Q S (is.reverse ++ L) a' w)
    (hs:Region.noSelect ops = true:=by decide +kernel) (hQ:∀ c a w d v,Q (.panic c) (Act.put a d v) w → Q (.panic c) a w:=by (intro _ _ _ d _ h;cases d <;> exact h)) (hc:takesB ops L is = true:=by decide +kernel)
    (hy:Ys P ops S is a a':=by (try simp only [List.getElem_toArray,List.getElem_cons_succ,List.getElem_cons_zero,Act.put,List.setIfInBounds_toArray,List.set_cons_zero,List.set_cons_succ]);(repeat ((first | (refine Ys.cons (v:=?_) (by (simp only [List.getElem?_toArray,List.getElem?_cons_succ,List.getElem?_cons_zero];rfl)) (Or.inl ⟨by rfl,?_⟩) ?_;rotate_left;(· (intro w9 hS9;(try dsimp only at hS9);(try (have u9:=bx15 hS9.1));go_simp;(try with_reducible rfl)))) | refine Ys.cons (v:=undef) (by (simp only [List.getElem?_toArray,List.getElem?_cons_succ,List.getElem?_cons_zero];rfl)) (Or.inr ⟨by rfl,rfl⟩) ?_);simp only [List.getElem_toArray,List.getElem_cons_succ,List.getElem_cons_zero,Act.put,List.setIfInBounds_toArray,List.set_cons_zero,List.set_cons_succ]));exact Ys.nil):HA P ops Q S L a w:=HA.takes hs hQ hS is hc hy h
theorem XA.t (a':Act) (is:List Nat) {L:List Nat} {a:Act} {w:World} (hS:S w) (h:XA P ops Q S n (is.reverse ++ L) a' w)
    (hs:Region.noSelect ops = true:=by decide +kernel) (hQ:∀ c a w d v,Q (.panic c) (Act.put a d v) w → Q (.panic c) a w:=by (intro _ _ _ d _ h;cases d <;> exact h)) (hc:takesX ops n L is = true:=by decide +kernel)
    (hy:Ys P ops S is a a':=by (try simp only [List.getElem_toArray,List.getElem_cons_succ,List.getElem_cons_zero,Act.put,List.setIfInBounds_toArray,List.set_cons_zero,List.set_cons_succ]);(repeat ((first | (refine Ys.cons (v:=?_) (by (simp only [List.getElem?_toArray,List.getElem?_cons_succ,List.getElem?_cons_zero];rfl)) (Or.inl ⟨by rfl,?_⟩) ?_;rotate_left;(· (intro w9 hS9;(try dsimp only at hS9);(try (have u9:=bx15 hS9.1));go_simp;(try with_reducible rfl)))) | refine Ys.cons (v:=undef) (by (simp only [List.getElem?_toArray,List.getElem?_cons_succ,List.getElem?_cons_zero];rfl)) (Or.inr ⟨by rfl,rfl⟩) ?_);simp only [List.getElem_toArray,List.getElem_cons_succ,List.getElem_cons_zero,Act.put,List.setIfInBounds_toArray,List.set_cons_zero,List.set_cons_succ]));exact Ys.nil):XA P ops Q S n L a w:=XA.takes hs hQ hS is hc hy h
theorem XA.t0 (a':Act) (is:List Nat) {L:List Nat} {a:Act} {w:World} (hS:S w) (h:XA P ops Q S n (is.reverse ++ L) a' w)
    (hs:Region.noSelect ops = true:=by decide +kernel) (hQ:∀ c a w d v,Q (.panic c) (Act.put a d v) w → Q (.panic c) a w:=by (intro _ _ _ d _ h;cases d <;> exact h)) (hc:YtaccfnffmbndhaaGreat.takes0 ops n L is = true:=by decide +kernel)
    (hy:Ys P ops (fun _ => True) is a a':=by (try simp only [List.getElem_toArray,List.getElem_cons_succ,List.getElem_cons_zero,Act.put,List.setIfInBounds_toArray,List.set_cons_zero,List.set_cons_succ]);(repeat ((first | (refine Ys.cons (v:=?_) (by (simp only [List.getElem?_toArray,List.getElem?_cons_succ,List.getElem?_cons_zero];rfl)) (Or.inl ⟨by rfl,?_⟩) ?_;rotate_left;(· (intro w9 _;go_simp;(try with_reducible rfl)))) | refine Ys.cons (v:=undef) (by (simp only [List.getElem?_toArray,List.getElem?_cons_succ,List.getElem?_cons_zero];rfl)) (Or.inr ⟨by rfl,rfl⟩) ?_);simp only [List.getElem_toArray,List.getElem_cons_succ,List.getElem_cons_zero,Act.put,List.setIfInBounds_toArray,List.set_cons_zero,List.set_cons_succ]));exact Ys.nil):XA P ops Q S n L a w:=XA.takes0 hs hQ hS is hc hy h
theorem HA.c {L:List Nat} {a:Act} {w:World} (i:Nat) {f:FuncId} {args:Array Value} {R:Ending → World → Prop} {o:Oper} (hc:Calls P f args w R)
    (k:∀ e w',R e w' → ∃ v,e = .returned v ∧ S w' ∧ (S w' → HA P ops Q S (i :: L) (a.put o.dst v) w')) (ho:ops[i]? = some o:=by (simp only [List.getElem?_toArray,List.getElem?_cons_succ,List.getElem?_cons_zero];rfl)) (hr:readyF ops L = [i]:=by decide +kernel)
    (hw:Region.wanted o (yielded ops a.tmps) = true:=by rfl) (he:(execOp a.eval o).run P w = .ok (.enter f args) w:=by go_simp):HA P ops Q S L a w:=HA.call i hc ho hr hw he k
theorem XA.c {L:List Nat} {a:Act} {w:World} (i:Nat) {f:FuncId} {args:Array Value} {R:Ending → World → Prop} {o:Oper} (hc:Calls P f args w R)
    (k:∀ e w',R e w' → ∃ v,e = .returned v ∧ S w' ∧ (S w' → XA P ops Q S n (i :: L) (a.put o.dst v) w')) (ho:ops[i]? = some o:=by (simp only [List.getElem?_toArray,List.getElem?_cons_succ,List.getElem?_cons_zero];rfl)) (hr:readyF ops L = [i]:=by decide +kernel)
    (hw:Region.wanted o (yielded ops a.tmps) = true:=by rfl) (he:(execOp a.eval o).run P w = .ok (.enter f args) w:=by go_simp):XA P ops Q S n L a w:=XA.call i hc ho hr hw he k
theorem HA.d {L:List Nat} {a:Act} {w:World} (h:Q .normal a w) (hr:readyF ops L = []:=by decide +kernel):HA P ops Q S L a w:=⟨wpAnyH_done (by rw [readyF_eq];exact hr) h _⟩
theorem XA.e {l:List Oper} {L:List Nat} {a:Act} {w:World} (h:wpList P l.toArray Q (l.drop n) a w) (hf:unl (marked l.toArray.size L) = (l.drop n).length:=by rfl) (hB:seqF l.toArray (l.drop n).length n L = true:=by decide +kernel) :
    XA P l.toArray Q S n L a w:=XA.tail hf hB h
theorem HA.o {L:List Nat} {a:Act} {w:World} {o:Oper} (i:Nat)
    (h:∀ K':Act → World → Prop,Shut (∀ a w,S w → (S w → HA P ops Q S (i :: L) a w) → K' a w) → if Region.wanted o (yielded ops a.tmps) = true then Oper.wp P o a w K' Q else K' (a.put o.dst undef) w)
    (ho:ops[i]? = some o:=by (simp only [List.getElem?_toArray,List.getElem?_cons_succ,List.getElem?_cons_zero];rfl)) (hr:readyF ops L = [i]:=by decide +kernel):HA P ops Q S L a w:=HA.one i ho hr h
theorem XA.o {L:List Nat} {a:Act} {w:World} {o:Oper} (i:Nat)
    (h:∀ K':Act → World → Prop,Shut (∀ a w,S w → (S w → XA P ops Q S n (i :: L) a w) → K' a w) → if Region.wanted o (yielded ops a.tmps) = true then Oper.wp P o a w K' Q else K' (a.put o.dst undef) w)
    (ho:ops[i]? = some o:=by (simp only [List.getElem?_toArray,List.getElem?_cons_succ,List.getElem?_cons_zero];rfl)) (hr:readyF ops L = [i]:=by decide +kernel):XA P ops Q S n L a w:=XA.one i ho hr h
theorem HA.s {L:List Nat} {a:Act} {w:World} {o:Oper} (i:Nat) (w':World) (hS:S w') (k:HA P ops Q S (i :: L) (a.put o.dst undef) w') (ho:ops[i]? = some o:=by (simp only [List.getElem?_toArray,List.getElem?_cons_succ,List.getElem?_cons_zero];rfl))
    (hr:readyF ops L = [i]:=by decide +kernel) (hw:Region.wanted o (yielded ops a.tmps) = true:=by rfl) (he:(execOp a.eval o).run P w = .ok .skip w':=by go_simp):HA P ops Q S L a w:=by
  refine HA.one i ho hr fun K' hK => ?_
  rw [if_pos hw]
  unfold Oper.wp
  rw [he]
  exact hK.out _ _ hS fun _ => k
theorem HA.v {L:List Nat} {a:Act} {w:World} {o:Oper} (i:Nat) (w':World) (v:Value) (hS:S w') (k:HA P ops Q S (i :: L) (a.put o.dst v) w') (ho:ops[i]? = some o:=by (simp only [List.getElem?_toArray,List.getElem?_cons_succ,List.getElem?_cons_zero];rfl))
    (hr:readyF ops L = [i]:=by decide +kernel) (hw:Region.wanted o (yielded ops a.tmps) = true:=by rfl) (he:(execOp a.eval o).run P w = .ok (.value v) w':=by go_simp):HA P ops Q S L a w:=by
  refine HA.one i ho hr fun K' hK => ?_
  rw [if_pos hw]
  unfold Oper.wp
  rw [he]
  exact hK.out _ _ hS fun _ => k
end
end Go.Proofs.YtaccfnffmbndhaaGreat
namespace Go.Proofs.YtaccfnffmbndhaaGreat
open Go.RowKit
def mulQ (a b q:Int):Int:=if q < 0 ∨ 62 < q then 0 else wrap64 (a * b / 2 ^ q.toNat)
def uw (x:Int):Int:=x % 18446744073709551616
theorem uw_bd (x:Int):0 ≤ uw x ∧ uw x < 18446744073709551616:=by unfold uw;omega
theorem wrap64_bd (x:Int):-9223372036854775808 ≤ wrap64 x ∧ wrap64 x ≤ 9223372036854775807:=by unfold wrap64;omega
theorem wrap64_uw (x:Int):wrap64 (uw x) = wrap64 x:=by unfold wrap64 uw;omega
theorem wrap64_eq {x y:Int} (h:∃ k:Int,x = y + k * 18446744073709551616):wrap64 x = wrap64 y:=by
  obtain ⟨k,rfl⟩:=h
  unfold wrap64;omega
theorem wrap64_id {x:Int} (h1:-9223372036854775808 ≤ x) (h2:x ≤ 9223372036854775807):wrap64 x = x:=by unfold wrap64;omega
def prodHi (a b:Int):Int:=a * b / 18446744073709551616
def prodLo (a b:Int):Int:=uw (a * b)
theorem prod_eq (a b:Int):prodHi a b * 18446744073709551616 + prodLo a b = a * b:=by unfold prodHi prodLo uw;omega
theorem mul_bd {a b:Int} (ha:-9223372036854775808 ≤ a ∧ a ≤ 9223372036854775807) (hb:-9223372036854775808 ≤ b ∧ b ≤ 9223372036854775807):-85070591730234615865843651857942052864 ≤ a * b ∧ a * b ≤ 85070591730234615865843651857942052864:=by
  have h1:a.natAbs ≤ 9223372036854775808:=by omega
  have h2:b.natAbs ≤ 9223372036854775808:=by omega
  have h3:=Nat.mul_le_mul h1 h2
  rw [← Int.natAbs_mul] at h3
  omega
theorem prodHi_bd {a b:Int} (ha:-9223372036854775808 ≤ a ∧ a ≤ 9223372036854775807) (hb:-9223372036854775808 ≤ b ∧ b ≤ 9223372036854775807):-9223372036854775808 ≤ prodHi a b ∧ prodHi a b ≤ 9223372036854775807:=by
  have:=mul_bd ha hb
  unfold prodHi;omega
theorem shift_eq (a b:Int) (q:Nat) (hq:q ≤ 62):prodHi a b * 2 ^ (64 - q) + prodLo a b / 2 ^ q = a * b / 2 ^ q:=by
  have e:(18446744073709551616:Int) = 2 ^ (64 - q) * 2 ^ q:=by rw [← Int.pow_add,show 64 - q + q = 64 by omega];rfl
  have hp:(2:Int) ^ q ≠ 0:=by have:=Int.pow_pos (n:=2) (m:=q) (by decide);omega
  have h:=prod_eq a b
  rw [← h,e,← Int.mul_assoc,Int.add_comm (prodHi a b * 2 ^ (64 - q) * 2 ^ q),Int.add_mul_ediv_right _ _ hp,Int.add_comm]
theorem wrap64_sub (x y:Int):wrap64 (wrap64 x - y) = wrap64 (x - y):=by unfold wrap64;omega
theorem wrap64_add (x y:Int):wrap64 (wrap64 x + y) = wrap64 (x + y):=by unfold wrap64;omega
theorem words_mul (a b:Int) (ha:-9223372036854775808 ≤ a ∧ a ≤ 9223372036854775807) (hb:-9223372036854775808 ≤ b ∧ b ≤ 9223372036854775807) :
    uw a * uw b = a * b + ((if a < 0 then b else 0) + (if b < 0 then a else 0) + (if a < 0 ∧ b < 0 then 18446744073709551616 else 0)) * 18446744073709551616:=by
  by_cases h1:a < 0
  · have e1:uw a = a + 18446744073709551616:=by unfold uw;omega
    by_cases h2:b < 0
    · have e2:uw b = b + 18446744073709551616:=by unfold uw;omega
      rw [e1,e2,if_pos h1,if_pos h2,if_pos ⟨h1,h2⟩,Int.add_mul,Int.mul_add]
      omega
    · have e2:uw b = b:=by unfold uw;omega
      rw [e1,e2,if_pos h1,if_neg h2,if_neg (fun h => h2 h.2),Int.add_mul]
      omega
  · have e1:uw a = a:=by unfold uw;omega
    by_cases h2:b < 0
    · have e2:uw b = b + 18446744073709551616:=by unfold uw;omega
      rw [e1,e2,if_neg h1,if_pos h2,if_neg (fun h => h1 h.1),Int.mul_add]
      omega
    · have e2:uw b = b:=by unfold uw;omega
      rw [e1,e2,if_neg h1,if_neg h2,if_neg (fun h => h1 h.1)]
      omega
theorem words_hi (a b:Int) (ha:-9223372036854775808 ≤ a ∧ a ≤ 9223372036854775807) (hb:-9223372036854775808 ≤ b ∧ b ≤ 9223372036854775807) :
    wrap64 (uw a * uw b / 18446744073709551616 - (if a < 0 then b else 0) - (if b < 0 then a else 0)) = prodHi a b:=by
  rw [words_mul a b ha hb,Int.add_mul_ediv_right _ _ (by decide)]
  have h:=prodHi_bd ha hb
  rw [← wrap64_id h.1 h.2]
  refine wrap64_eq ⟨if a < 0 ∧ b < 0 then 1 else 0,?_⟩
  unfold prodHi
  by_cases h1:a < 0
  · by_cases h2:b < 0
    · simp only [h1,h2,if_true,and_self];omega
    · simp only [h1,h2,if_true,if_false,and_false];omega
  · by_cases h2:b < 0
    · simp only [h1,h2,if_true,if_false,false_and];omega
    · simp only [h1,h2,if_false,false_and];omega
theorem words_lo (a b:Int) (ha:-9223372036854775808 ≤ a ∧ a ≤ 9223372036854775807) (hb:-9223372036854775808 ≤ b ∧ b ≤ 9223372036854775807):uw (uw a * uw b) = prodLo a b:=by
  rw [words_mul a b ha hb]
  unfold prodLo uw
  rw [Int.add_mul_emod_self_right]
theorem uw_nat (a:Int):∃ X:Nat,uw a = X ∧ X < 18446744073709551616:=⟨(uw a).toNat,by have:=uw_bd a;omega,by have:=uw_bd a;omega⟩
end Go.Proofs.YtaccfnffmbndhaaGreat
namespace Go.Proofs.YtaccfnffmbndhaaGreat
open Go.RowKit
def W64 (l:List Int):Prop:=∀ k,k < l.length → -9223372036854775808 ≤ nth l k ∧ nth l k ≤ 9223372036854775807
theorem nth_mem {l:List Int} {k:Nat} (h:k < l.length):nth l k ∈ l:=by rw [nth_eq l k h];exact List.getElem_mem h
theorem nth_set (l:List Int) (k:Nat) (v:Int) (j:Nat):nth (l.set k v) j = if j = k ∧ k < l.length then v else nth l j:=by
  unfold nth
  simp only [List.getD_eq_getElem?_getD,List.getElem?_set]
  by_cases h:k = j
  · subst h
    by_cases h2:k < l.length
    · simp [h2]
    · simp [h2,List.getElem?_eq_none (show l.length ≤ k by omega)]
  · simp [h,Ne.symm h]
theorem ext_nth {a b:List Int} (hl:a.length = b.length) (h:∀ k,k < a.length → nth a k = nth b k):a = b:=by
  refine List.ext_getElem hl fun k h1 h2 => ?_
  rw [← nth_eq a k h1,← nth_eq b k h2]
  exact h k h1
def upTo (n:Nat) (f:Nat → Int):List Int:=(List.range n).map f
theorem upTo_len (n:Nat) (f:Nat → Int):(upTo n f).length = n:=by simp [upTo]
theorem upTo_nth {n k:Nat} (f:Nat → Int) (h:k < n):nth (upTo n f) k = f k:=by rw [nth_eq _ _ (by rw [upTo_len];exact h)];simp [upTo]
theorem upTo_succ (n:Nat) (f:Nat → Int):upTo (n + 1) f = upTo n f ++ [f n]:=by simp [upTo,List.range_succ]
theorem upTo_W64 {n:Nat} {f:Nat → Int} (h:∀ k,k < n → -9223372036854775808 ≤ f k ∧ f k ≤ 9223372036854775807):W64 (upTo n f):=fun k hk => by
  rw [upTo_len] at hk
  rw [upTo_nth f hk];exact h k hk
theorem upTo_congr {n:Nat} {f g:Nat → Int} (h:∀ k,k < n → f k = g k):upTo n f = upTo n g:=by
  unfold upTo;exact List.map_congr_left fun k hk => h k (List.mem_range.1 hk)
theorem eq_upTo {l:List Int} {n:Nat} {f:Nat → Int} (hl:l.length = n) (h:∀ k,k < n → nth l k = f k):l = upTo n f:=
  ext_nth (by rw [upTo_len,hl]) fun k hk => by rw [upTo_nth f (by omega)];exact h k (by omega)
def mixed (l:List Int) (k:Nat) (f:Nat → Int):List Int:=upTo l.length fun j => if j < k then f j else nth l j
theorem mixed_len (l:List Int) (k:Nat) (f:Nat → Int):(mixed l k f).length = l.length:=upTo_len _ _
theorem mixed_zero (l:List Int) (f:Nat → Int):mixed l 0 f = l:=(eq_upTo rfl fun k _ => by rw [if_neg (by omega)]).symm
theorem mixed_nth {l:List Int} {k:Nat} (f:Nat → Int) {j:Nat} (hj:j < l.length):nth (mixed l k f) j = if j < k then f j else nth l j:=upTo_nth _ hj
theorem mixed_set {l:List Int} {k:Nat} (f:Nat → Int) (hk:k < l.length):(mixed l k f).set k (f k) = mixed l (k + 1) f:=by
  refine ext_nth (by simp [mixed_len]) fun j hj => ?_
  rw [List.length_set,mixed_len] at hj
  rw [nth_set,mixed_nth f hj,mixed_nth f hj,mixed_len]
  by_cases h1:j = k
  · subst h1;simp [hk]
  · by_cases h2:j < k
    · simp [h1,h2,show j < k + 1 by omega]
    · simp [h1,h2,show ¬ j < k + 1 by omega]
theorem mixed_all (l:List Int) (f:Nat → Int):mixed l l.length f = upTo l.length f:=by
  unfold mixed;exact upTo_congr fun k hk => by rw [if_pos hk]
def dotN (xs ys:List Int) (q:Int):Nat → Int
  | 0 => 0
  | k + 1 => wrap64 (dotN xs ys q k + mulQ (nth xs k) (nth ys k) q)
def dotL (xs ys:List Int) (q:Int):Int:=dotN xs ys q xs.length
def scaleL (xs:List Int) (a q:Int):List Int:=upTo xs.length fun k => mulQ (nth xs k) a q
def addL (xs ys:List Int):List Int:=upTo xs.length fun k => wrap64 (nth xs k + nth ys k)
end Go.Proofs.YtaccfnffmbndhaaGreat
namespace Go.Proofs.YtaccfnffmbndhaaGreat
open Go.RowKit
def cntQ (n size:Nat):Nat:=if n = 0 then 0 else (n - 1) / size + 1
theorem ediv_pred (n s:Nat) (hn:1 ≤ n):((n:Int) - 1) / (s:Int) = (((n - 1) / s:Nat):Int):=by
  rw [show ((n:Int) - 1) = ((n - 1:Nat):Int) by omega,← Int.natCast_ediv]
theorem cntQ_le (n size:Nat):cntQ n size ≤ n:=by
  unfold cntQ
  split
  · omega
  · have:=Nat.div_le_self (n - 1) size
    omega
theorem cntQ_lt {n size k:Nat} (h:k < cntQ n size):k * size < n:=by
  unfold cntQ at h
  split at h
  · omega
  · have h1:k ≤ (n - 1) / size:=by omega
    have h2:=Nat.mul_le_mul_right size h1
    have h3:=Nat.div_mul_le_self (n - 1) size
    omega
def blkVals (n size k:Nat):List Value:=(List.range k).flatMap fun j => [.int .i64 ((j * size:Nat):Int),.int .i64 ((min (j * size + size) n:Nat):Int)]
theorem blkVals_succ (n size k:Nat):blkVals n size (k + 1) = blkVals n size k ++ [.int .i64 ((k * size:Nat):Int),.int .i64 ((min (k * size + size) n:Nat):Int)]:=by simp [blkVals,List.range_succ,List.flatMap_append]
theorem blkVals_len (n size k:Nat):(blkVals n size k).length = k * 2:=by
  induction k with
  | zero => simp [blkVals]
  | succ k ih => rw [blkVals_succ,List.length_append,ih];simp;omega
theorem blkVals_at (n size:Nat) {j k:Nat} (h:j < k):(blkVals n size k)[j * 2]? = some (.int .i64 ((j * size:Nat):Int)) ∧ (blkVals n size k)[j * 2 + 1]? = some (.int .i64 ((min (j * size + size) n:Nat):Int)):=by
  induction k with
  | zero => omega
  | succ k ih =>
    rw [blkVals_succ]
    rcases Nat.lt_or_ge j k with hj | hj
    · obtain ⟨h1,h2⟩:=ih hj
      have hl:=blkVals_len n size k
      rw [List.getElem?_append_left (by omega),List.getElem?_append_left (by omega)]
      exact ⟨h1,h2⟩
    · obtain rfl:j = k:=by omega
      have hl:=blkVals_len n size j
      rw [List.getElem?_append_right (by omega),List.getElem?_append_right (by omega),hl]
      simp
theorem cntQ_whole (n batch:Nat) (hb:1 ≤ batch) (hn:batch ≤ n):cntQ (n - n % batch) batch = n / batch:=by
  have h1:=Nat.div_add_mod n batch
  have h2:=Nat.div_pos hn hb
  have h3:n - n % batch = batch * (n / batch):=by omega
  have h4:1 ≤ batch * (n / batch):=Nat.mul_pos hb h2
  unfold cntQ
  rw [if_neg (by omega),h3]
  have h5:batch * (n / batch) - 1 = batch * (n / batch - 1) + (batch - 1):=by
    have:batch * (n / batch) = batch * (n / batch - 1) + batch:=by rw [← Nat.mul_succ];congr 1;omega
    omega
  rw [h5,Nat.mul_add_div hb,show (batch - 1) / batch = 0 from Nat.div_eq_of_lt (by omega)]
  omega
theorem whole_min (n batch j:Nat) (hb:1 ≤ batch) (hj:j < n / batch):min (j * batch + batch) (n - n % batch) = j * batch + batch:=by
  have h1:=Nat.div_add_mod n batch
  have h2:(j + 1) * batch ≤ (n / batch) * batch:=Nat.mul_le_mul_right _ hj
  rw [Nat.succ_mul] at h2
  have h3:(n / batch) * batch = batch * (n / batch):=Nat.mul_comm _ _
  omega
theorem whole_le (n batch j:Nat) (hj:j < n / batch):j * batch + batch ≤ n:=by
  have h1:=Nat.div_mul_le_self n batch
  have h2:(j + 1) * batch ≤ (n / batch) * batch:=Nat.mul_le_mul_right _ hj
  rw [Nat.succ_mul] at h2
  omega
theorem cntQ_eq (n size:Nat) (hs:1 ≤ size):cntQ n size = (n + size - 1) / size:=by
  unfold cntQ
  split
  · subst_vars;rw [Nat.zero_add,Nat.div_eq_of_lt (by omega)]
  · rw [show n + size - 1 = (n - 1) + size by omega,Nat.add_div_right _ hs]
end Go.Proofs.YtaccfnffmbndhaaGreat
namespace Go.Proofs.YtaccfnffmbndhaaGreat
open Go.RowKit
def szN (sz:List Int) (k:Nat):Nat:=(nth sz k).toNat
def cntN (sz:List Int):Nat → Nat
  | 0 => 0
  | k + 1 => cntN sz k + (szN sz k + 1) * szN sz (k + 1)
def midN (sz:List Int) (k:Nat):Nat:=cntN sz k + szN sz (k + 1) * szN sz k
def RightSz (sz:List Int):Prop:=(2 ≤ sz.length ∧ sz.length ≤ 16) ∧ ∀ k,k < sz.length → 1 ≤ nth sz k ∧ nth sz k ≤ 1048576
def GoodSz (sz:List Int):Prop:=RightSz sz ∧ cntN sz (sz.length - 1) ≤ 1048576
theorem RightSz.at {sz:List Int} (h:RightSz sz) {k:Nat} (hk:k < sz.length):1 ≤ szN sz k ∧ szN sz k ≤ 1048576 ∧ nth sz k = (szN sz k:Int):=by
  have:=h.2 k hk
  unfold szN;omega
theorem midN_eq (sz:List Int) (k:Nat):midN sz k + szN sz (k + 1) = cntN sz (k + 1):=by
  unfold midN
  rw [cntN,Nat.add_mul,Nat.one_mul,Nat.mul_comm (szN sz k)];omega
theorem RightSz.mul {sz:List Int} (h:RightSz sz) {k:Nat} (hk:k + 1 < sz.length):szN sz (k + 1) * szN sz k ≤ 1099511627776:=by
  have h1:=h.at hk
  have h2:=h.at (k:=k) (by omega)
  exact Nat.mul_le_mul h1.2.1 h2.2.1
theorem RightSz.cnt {sz:List Int} (h:RightSz sz):∀ k,k < sz.length → cntN sz k ≤ k * 1099512676352:=by
  intro k
  induction k with
  | zero => intro _;simp [cntN]
  | succ k ih =>
    intro hk
    have h1:=ih (by omega)
    have h2:=h.mul hk
    have h3:=(h.at hk).2.1
    have h4:=midN_eq sz k
    unfold midN at h4
    omega
theorem cntN_mono (sz:List Int) {j k:Nat} (h:j ≤ k):cntN sz j ≤ cntN sz k:=by
  induction h with
  | refl => exact Nat.le_refl _
  | step _ ih => rw [cntN];omega
theorem RightSz.bound {sz:List Int} (h:RightSz sz) {k:Nat} (hk:k < sz.length):cntN sz k ≤ 17592202821632:=by
  have h1:=h.cnt k hk
  have h2:=h.1.2
  have:k * 1099512676352 ≤ 16 * 1099512676352:=Nat.mul_le_mul_right _ (by omega)
  omega
theorem GoodSz.bound {sz:List Int} (h:GoodSz sz) {k:Nat} (hk:k < sz.length):cntN sz k ≤ 1048576:=Nat.le_trans (cntN_mono sz (by omega)) h.2
theorem GoodSz.mul {sz:List Int} (h:GoodSz sz) {k:Nat} (hk:k + 1 < sz.length):szN sz (k + 1) * szN sz k ≤ 1048576:=by
  have h1:=h.bound hk
  have h2:=midN_eq sz k
  unfold midN at h2
  omega
def wVals (sz:List Int) (k:Nat):List Value:=(List.range k).flatMap fun j => [.int .i64 (cntN sz j:Int),.int .i64 (midN sz j:Int)]
def bVals (sz:List Int) (k:Nat):List Value:=(List.range k).flatMap fun j => [.int .i64 (midN sz j:Int),.int .i64 (cntN sz (j + 1):Int)]
theorem wVals_succ (sz:List Int) (k:Nat):wVals sz (k + 1) = wVals sz k ++ [.int .i64 (cntN sz k:Int),.int .i64 (midN sz k:Int)]:=by simp [wVals,List.range_succ,List.flatMap_append]
theorem bVals_succ (sz:List Int) (k:Nat):bVals sz (k + 1) = bVals sz k ++ [.int .i64 (midN sz k:Int),.int .i64 (cntN sz (k + 1):Int)]:=by simp [bVals,List.range_succ,List.flatMap_append]
theorem wVals_len (sz:List Int) (k:Nat):(wVals sz k).length = k * 2:=by
  induction k with
  | zero => rfl
  | succ k ih => rw [wVals_succ,List.length_append,ih];simp;omega
theorem bVals_len (sz:List Int) (k:Nat):(bVals sz k).length = k * 2:=by
  induction k with
  | zero => rfl
  | succ k ih => rw [bVals_succ,List.length_append,ih];simp;omega
theorem wVals_at (sz:List Int) {j n:Nat} (h:j < n):(wVals sz n)[j * 2]? = some (.int .i64 (cntN sz j:Int)) ∧ (wVals sz n)[j * 2 + 1]? = some (.int .i64 (midN sz j:Int)):=by
  induction n with
  | zero => omega
  | succ n ih =>
    rw [wVals_succ]
    by_cases hj:j < n
    · have:=ih hj
      rw [List.getElem?_append_left (by rw [wVals_len];omega),List.getElem?_append_left (by rw [wVals_len];omega)]
      exact this
    · obtain rfl:j = n:=by omega
      rw [List.getElem?_append_right (by rw [wVals_len];omega),List.getElem?_append_right (by rw [wVals_len];omega),wVals_len]
      simp
theorem bVals_at (sz:List Int) {j n:Nat} (h:j < n):(bVals sz n)[j * 2]? = some (.int .i64 (midN sz j:Int)) ∧ (bVals sz n)[j * 2 + 1]? = some (.int .i64 (cntN sz (j + 1):Int)):=by
  induction n with
  | zero => omega
  | succ n ih =>
    rw [bVals_succ]
    by_cases hj:j < n
    · have:=ih hj
      rw [List.getElem?_append_left (by rw [bVals_len];omega),List.getElem?_append_left (by rw [bVals_len];omega)]
      exact this
    · obtain rfl:j = n:=by omega
      rw [List.getElem?_append_right (by rw [bVals_len];omega),List.getElem?_append_right (by rw [bVals_len];omega),bVals_len]
      simp
def ShapeAt (T:TypeId) (w:World) (b:Nat) (sz:List Int):Prop:=∃ A1 c1 A2 c2 A3 c3,
  w.heap[b]? = some (.cells #[.slice A1 sz.length c1,.slice A2 (sz.length - 1) c2,.slice A3 (sz.length - 1) c3,.int .i64 (cntN sz (sz.length - 1):Int)] T (0,0)) ∧
  Rd w A1 (nums .i64 sz) ∧ Rd w A2 (wVals sz (sz.length - 1)) ∧ Rd w A3 (bVals sz (sz.length - 1))
theorem ShapeAt.below {T:TypeId} {w w':World} {b:Nat} {sz:List Int} (h:ShapeAt T w b sz) (hb:Below w.heap.size w w'):ShapeAt T w' b sz:=by
  obtain ⟨A1,c1,A2,c2,A3,c3,h0,h1,h2,h3⟩:=h
  exact ⟨A1,c1,A2,c2,A3,c3,(hb.block b (lt_of_block h0)).trans h0,h1.below hb,h2.below hb,h3.below hb⟩
theorem ShapeAt.lt {T:TypeId} {w:World} {b:Nat} {sz:List Int} (h:ShapeAt T w b sz):b < w.heap.size:=by
  obtain ⟨A1,c1,A2,c2,A3,c3,h0,_⟩:=h
  exact lt_of_block h0
end Go.Proofs.YtaccfnffmbndhaaGreat
