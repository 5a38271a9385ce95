/- Regions that draw their order, in few steps: what is taken first is taken all at once; a call in one step. The layout of the parameters of a network, in plain numbers. The walks of package shape: what is asked of a shape. No condition. -/
import Derived.Test.YtaccfnffmbndhaaGreatB03
import Derived.Test.YtaccfnffmbndhaaGreatB02
import Derived.Test.YtaccfnffmbndhaaGreatProg
import Derived.WalkSpells
import Derived.BigQuiet
import Derived.Deep.QuietTactic
set_option linter.unusedSimpArgs false
set_option linter.unusedVariables false
namespace Go.Proofs.YtaccfnffmbndhaaGreat
section
variable {P:Program} {ops:Array Oper} {Q:Exit → Act → World → Prop} {S:World → Prop} {n:Nat}
def unl (l:Array Bool):Nat:=l.toList.count false
theorem unl_set {l:Array Bool} {i:Nat} (h:l.getD i true = false):unl l = unl (l.setIfInBounds i true) + 1:=by
  have hi:i < l.size:=by
    rcases Nat.lt_or_ge i l.size with h' | h'
    · exact h'
    · simp [Array.getElem?_eq_none h'] at h
  have hl:l.toList[i]'(by simpa using hi) = false:=by simpa [hi] using h
  have h0:List.count false (l.toList.set i true) = List.count false l.toList - 1:=by
    rw [List.count_set (by simpa using hi)]
    simp [hl]
  have h1:0 < List.count false l.toList:=List.count_pos_iff.2 (by rw [← hl];exact List.getElem_mem _)
  unfold unl
  rw [Array.toList_setIfInBounds,h0]
  omega
def marked (m:Nat) (L:List Nat):Array Bool:=L.foldr (fun i l => l.setIfInBounds i true) (Array.replicate m false)
theorem marked_size (m:Nat):∀ L:List Nat,(marked m L).size = m
  | [] => by simp [marked]
  | a :: L => by simp only [marked,List.foldr_cons,Array.size_setIfInBounds];exact marked_size m L
theorem marked_get (m i:Nat) (d:Bool):∀ L:List Nat,(marked m L).getD i d = if i < m then L.contains i else d
  | [] => by simp only [marked,List.foldr_nil,List.contains_nil];split <;> simp_all [Array.getElem?_replicate]
  | a :: L => by
    have ih:=marked_get m i d L
    have hs:=marked_size m L
    show ((marked m L).setIfInBounds a true).getD i d = _
    by_cases h:i < m
    · rw [if_pos h] at ih ⊢
      by_cases ha:a = i
      · subst ha;simp [hs,h]
      · rw [getD_set_ne d ha,ih];simp [Ne.symm ha]
    · rw [if_neg h] at ih ⊢
      by_cases ha:a = i
      · subst ha;simp [hs,h]
      · rw [getD_set_ne d ha,ih]
def readyF (ops:Array Oper) (L:List Nat):List Nat:=
  (List.range ops.size).filter fun i => !L.contains i && ((ops[i]?).map (·.after.all fun e => !Region.binds .any e || (L.contains e.on && decide (e.on < ops.size)))).getD false
theorem readyF_eq (L:List Nat):Region.ready .any ops (marked ops.size L) = readyF ops L:=by
  unfold Region.ready readyF
  refine List.filter_congr fun i hi => ?_
  rw [marked_get,if_pos (List.mem_range.1 hi)]
  congr 3
  funext o
  congr 1
  funext e
  rw [marked_get]
  by_cases h:e.on < ops.size <;> simp [h]
def freeF (ops:Array Oper) (L:List Nat) (i:Nat):Bool:=
  match ops[i]? with
  | none => false
  | some oi => (List.range ops.size).all fun j => j == i || L.contains j || match ops[j]? with
      | some oj => oj.after.any (fun e => Region.binds .any e && e.on == i) || oi.apart ops oj
      | none => true
theorem freeF_eq (L:List Nat) (i:Nat):Region.free .any ops (marked ops.size L) i = freeF ops L i:=by
  unfold Region.free freeF
  cases ops[i]? with
  | none => rfl
  | some oi =>
    dsimp only
    rw [Bool.eq_iff_iff,List.all_eq_true,List.all_eq_true]
    refine forall_congr' fun j => forall_congr' fun hj => ?_
    rw [marked_get,if_pos (List.mem_range.1 hj)]
    exact Iff.rfl
def seqF (ops:Array Oper):Nat → Nat → List Nat → Bool
  | 0,_,L => (readyF ops L).isEmpty
  | g + 1,k,L => decide (readyF ops L = [k]) && seqF ops g (k + 1) (k :: L)
theorem seqF_eq:∀ (g k:Nat) (L:List Nat),Region.seqB .any ops g k (marked ops.size L) = seqF ops g k L
  | 0,k,L => by simp only [Region.seqB,seqF,readyF_eq]
  | g + 1,k,L => by
    simp only [Region.seqB,seqF,readyF_eq]
    rw [← seqF_eq g (k + 1) (k :: L)];rfl
inductive Ys (P:Program) (ops:Array Oper) (S:World → Prop):List Nat → Act → Act → Prop
  | nil {a:Act}:Ys P ops S [] a a
  | cons {i:Nat} {is:List Nat} {o:Oper} {v:Value} {a a':Act} (ho:ops[i]? = some o) (hy:YieldsIf P ops S o v a) (ht:Ys P ops S is (a.put o.dst v) a'):Ys P ops S (i :: is) a a'
def takesB (ops:Array Oper):List Nat → List Nat → Bool
  | _,[] => true
  | L,i :: is => (freeF ops L i && (readyF ops L).contains i) && takesB ops (i :: L) is
def takesX (ops:Array Oper) (n:Nat):List Nat → List Nat → Bool
  | _,[] => true
  | L,i :: is => (Region.waitsFor .any ops n i && decide (i ≠ n) && (decide (n < ops.size) && !L.contains n) && freeF ops L i && (readyF ops L).contains i) && takesX ops n (i :: L) is
structure HA (P:Program) (ops:Array Oper) (Q:Exit → Act → World → Prop) (S:World → Prop) (L:List Nat) (a:Act) (w:World):Prop where
  out:wpAnyH P .any ops Q S (unl (marked ops.size L)) (marked ops.size L) a w
structure XA (P:Program) (ops:Array Oper) (Q:Exit → Act → World → Prop) (S:World → Prop) (n:Nat) (L:List Nat) (a:Act) (w:World):Prop where
  out:wpAnyX P .any ops Q S n (unl (marked ops.size L)) (marked ops.size L) a w
theorem unl_marked (m:Nat):unl (marked m []) = m:=by simp [unl,marked,List.count_replicate]
theorem HA.go {id:Nat} {a:Act} {w:World} (S:World → Prop) (hm:P.follows .mixedOrders = true) (h:HA P ops Q S [] a w.drew):(Code.region id ops true).wp P Q a w:=by
  refine wp_region_held (S:=S) hm ?_
  have h':=h.out
  rw [unl_marked] at h'
  exact h'
theorem XA.go {id:Nat} {a:Act} {w:World} (n:Nat) (S:World → Prop) (hm:P.follows .mixedOrders = true) (h:XA P ops Q S n [] a w.drew):(Code.region id ops true).wp P Q a w:=by
  refine wp_region_X n S hm ?_
  have h':=h.out
  rw [unl_marked] at h'
  exact h'
theorem marked_ready {L:List Nat} {i:Nat} (h:(readyF ops L).contains i = true):unl (marked ops.size L) = unl (marked ops.size (i :: L)) + 1:=
  unl_set (mem_ready.1 (show i ∈ Region.ready .any ops (marked ops.size L) by rw [readyF_eq];simpa using h)).1
theorem HA.takes (hs:Region.noSelect ops = true) (hQ:∀ c a w d v,Q (.panic c) (Act.put a d v) w → Q (.panic c) a w) {w:World} (hS:S w) :
    ∀ (is:List Nat) {L:List Nat} {a a':Act},takesB ops L is = true → Ys P ops S is a a' → HA P ops Q S (is.reverse ++ L) a' w → HA P ops Q S L a w
  | [],_,_,_,_,.nil,h => h
  | i :: is,L,a,a',hc,.cons ho hy ht,h => by
    simp only [takesB,Bool.and_eq_true] at hc
    have h2:=HA.takes hs hQ hS is (L:=i :: L) hc.2 ht (by simpa using h)
    refine ⟨?_⟩
    rw [marked_ready hc.1.2]
    exact wpAnyH_take ho hs (by rw [freeF_eq];exact hc.1.1) (by rw [readyF_eq];exact hc.1.2) (fun c a w => hQ c a w _ _) hy hS h2.out
theorem XA.takes (hs:Region.noSelect ops = true) (hQ:∀ c a w d v,Q (.panic c) (Act.put a d v) w → Q (.panic c) a w) {w:World} (hS:S w) :
    ∀ (is:List Nat) {L:List Nat} {a a':Act},takesX ops n L is = true → Ys P ops S is a a' → XA P ops Q S n (is.reverse ++ L) a' w → XA P ops Q S n L a w
  | [],_,_,_,_,.nil,h => h
  | i :: is,L,a,a',hc,.cons ho hy ht,h => by
    simp only [takesX,Bool.and_eq_true,decide_eq_true_eq,Bool.not_eq_true'] at hc
    have h2:=XA.takes hs hQ hS is (L:=i :: L) hc.2 ht (by simpa using h)
    refine ⟨?_⟩
    rw [marked_ready hc.1.2]
    exact wpAnyX_take ho hc.1.1.1.1.1 hc.1.1.1.1.2 (by rw [marked_get,if_pos hc.1.1.1.2.1,hc.1.1.1.2.2]) hs (by rw [freeF_eq];exact hc.1.1.2) (by rw [readyF_eq];exact hc.1.2) (fun c a w => hQ c a w _ _) hy hS h2.out
def takes0 (ops:Array Oper) (n:Nat):List Nat → List Nat → Bool
  | _,[] => true
  | L,i :: is => (decide (i ≠ n) && freeF ops L i && (readyF ops L).contains i) && takes0 ops n (i :: L) is
theorem XA.takes0 (hs:Region.noSelect ops = true) (hQ:∀ c a w d v,Q (.panic c) (Act.put a d v) w → Q (.panic c) a w) {w:World} (hS:S w) :
    ∀ (is:List Nat) {L:List Nat} {a a':Act},YtaccfnffmbndhaaGreat.takes0 ops n L is = true → Ys P ops (fun _ => True) is a a' → XA P ops Q S n (is.reverse ++ L) a' w → XA P ops Q S n L a w
  | [],_,_,_,_,.nil,h => h
  | i :: is,L,a,a',hc,.cons ho hy ht,h => by
    simp only [YtaccfnffmbndhaaGreat.takes0,Bool.and_eq_true,decide_eq_true_eq] at hc
    have h2:=XA.takes0 hs hQ hS is (L:=i :: L) hc.2 ht (by simpa using h)
    refine ⟨?_⟩
    rw [marked_ready hc.1.2]
    exact wpAnyX_take0 ho hc.1.1.1 hs (by rw [freeF_eq];exact hc.1.1.2) (by rw [readyF_eq];exact hc.1.2) (fun c a w => hQ c a w _ _) hy hS h2.out
theorem ready_one {L:List Nat} {i:Nat} (hr:readyF ops L = [i]):unl (marked ops.size L) = unl (marked ops.size (i :: L)) + 1:=
  marked_ready (by rw [hr];simp)
theorem HA.one {L:List Nat} {a:Act} {w:World} (i:Nat) {o:Oper} (ho:ops[i]? = some o) (hr:readyF ops L = [i])
    (h:∀ K':Act → World → Prop,Shut (∀ a w,S w → (S w → HA P ops Q S (i :: L) a w) → K' a w) → if Region.wanted o (yielded ops a.tmps) = true then Oper.wp P o a w K' Q else K' (a.put o.dst undef) w):HA P ops Q S L a w:=by
  refine ⟨?_⟩
  rw [ready_one hr]
  exact wpAnyH_ready (by rw [readyF_eq];exact hr) (by simp) (AllReadyH.cons ho (fun K' hK => h K' fun a w hS hw => hK.out a w hS fun hS' => (hw hS').out) AllReadyH.nil)
theorem XA.one {L:List Nat} {a:Act} {w:World} (i:Nat) {o:Oper} (ho:ops[i]? = some o) (hr:readyF ops L = [i])
    (h:∀ K':Act → World → Prop,Shut (∀ a w,S w → (S w → XA P ops Q S n (i :: L) a w) → K' a w) → if Region.wanted o (yielded ops a.tmps) = true then Oper.wp P o a w K' Q else K' (a.put o.dst undef) w):XA P ops Q S n L a w:=by
  refine ⟨?_⟩
  rw [ready_one hr]
  exact wpAnyX_ready (by rw [readyF_eq];exact hr) (by simp) (AllReadyX.cons ho (fun K' hK => h K' fun a w hS hw => hK.out a w hS fun hS' => (hw hS').out) AllReadyX.nil)
theorem HA.call {L:List Nat} {a:Act} {w:World} (i:Nat) {f:FuncId} {args:Array Value} {R:Ending → World → Prop} (hc:Calls P f args w R) {o:Oper} (ho:ops[i]? = some o) (hr:readyF ops L = [i])
    (hw:Region.wanted o (yielded ops a.tmps) = true) (he:(execOp a.eval o).run P w = .ok (.enter f args) w)
    (k:∀ e w',R e w' → ∃ v,e = .returned v ∧ S w' ∧ (S w' → HA P ops Q S (i :: L) (a.put o.dst v) w')):HA P ops Q S L a w:=by
  refine HA.one i ho hr fun K' hK => ?_
  rw [if_pos hw]
  unfold Oper.wp
  rw [he]
  refine hc.mono fun e w' hR => ?_
  obtain ⟨v,rfl,hS,h⟩:=k e w' hR
  exact hK.out _ _ hS h
theorem XA.call {L:List Nat} {a:Act} {w:World} (i:Nat) {f:FuncId} {args:Array Value} {R:Ending → World → Prop} (hc:Calls P f args w R) {o:Oper} (ho:ops[i]? = some o) (hr:readyF ops L = [i])
    (hw:Region.wanted o (yielded ops a.tmps) = true) (he:(execOp a.eval o).run P w = .ok (.enter f args) w)
    (k:∀ e w',R e w' → ∃ v,e = .returned v ∧ S w' ∧ (S w' → XA P ops Q S n (i :: L) (a.put o.dst v) w')):XA P ops Q S n L a w:=by
  refine XA.one i ho hr fun K' hK => ?_
  rw [if_pos hw]
  unfold Oper.wp
  rw [he]
  refine hc.mono fun e w' hR => ?_
  obtain ⟨v,rfl,hS,h⟩:=k e w' hR
  exact hK.out _ _ hS h
theorem XA.tail {l:List Oper} {L:List Nat} {a:Act} {w:World} (hf:unl (marked l.toArray.size L) = (l.drop n).length) (hB:seqF l.toArray (l.drop n).length n L = true) (h:wpList P l.toArray Q (l.drop n) a w) :
    XA P l.toArray Q S n L a w:=by
  refine ⟨?_⟩
  exact wpAnyX_tail hf (by rw [seqF_eq];exact hB) h
theorem HA.g {id:Nat} {a:Act} {w:World} (S:World → Prop) (h:HA P ops Q S [] a w.drew) (hm:P.follows .mixedOrders = true:=by decide +kernel):(Code.region id ops true).wp P Q a w:=HA.go S hm h
theorem XA.g {id:Nat} {a:Act} {w:World} (n:Nat) (S:World → Prop) (h:XA P ops Q S n [] a w.drew) (hm:P.follows .mixedOrders = true:=by decide +kernel):(Code.region id ops true).wp P Q a w:=XA.go n S hm h
theorem HA.t (a':Act) (is:List Nat) {L:List Nat} {a:Act} {w:World} (hS:S w) (h:HA P ops Q S (is.reverse ++ L) a' w)
    (hs:Region.noSelect ops = true:=by decide +kernel) (hQ:∀ c a w d v,Q (.panic c) (Act.put a d v) w → Q (.panic c) a w:=by (intro _ _ _ d _ h;cases d <;> exact h)) (hc:takesB ops L is = true:=by decide +kernel)
    (hy:Ys P ops S is a a':=by (try simp only [List.getElem_toArray,List.getElem_cons_succ,List.getElem_cons_zero,Act.put,List.setIfInBounds_toArray,List.set_cons_zero,List.set_cons_succ]);(repeat ((first | (refine Ys.cons (v:=?_) (by (simp only [List.getElem?_toArray,List.getElem?_cons_succ,List.getElem?_cons_zero];rfl)) (Or.inl ⟨by rfl,?_⟩) ?_;rotate_left;(· (intro w9 hS9;(try dsimp only at hS9);(try (have u9:=bx15 hS9.1));go_simp;(try with_reducible rfl)))) | refine Ys.cons (v:=undef) (by (simp only [List.getElem?_toArray,List.getElem?_cons_succ,List.getElem?_cons_zero];rfl)) (Or.inr ⟨by rfl,rfl⟩) ?_);simp only [List.getElem_toArray,List.getElem_cons_succ,List.getElem_cons_zero,Act.put,List.setIfInBounds_toArray,List.set_cons_zero,List.set_cons_succ]));exact Ys.nil):HA P ops Q S L a w:=HA.takes hs hQ hS is hc hy h
theorem XA.t (a':Act) (is:List Nat) {L:List Nat} {a:Act} {w:World} (hS:S w) (h:XA P ops Q S n (is.reverse ++ L) a' w)
    (hs:Region.noSelect ops = true:=by decide +kernel) (hQ:∀ c a w d v,Q (.panic c) (Act.put a d v) w → Q (.panic c) a w:=by (intro _ _ _ d _ h;cases d <;> exact h)) (hc:takesX ops n L is = true:=by decide +kernel)
    (hy:Ys P ops S is a a':=by (try simp only [List.getElem_toArray,List.getElem_cons_succ,List.getElem_cons_zero,Act.put,List.setIfInBounds_toArray,List.set_cons_zero,List.set_cons_succ]);(repeat ((first | (refine Ys.cons (v:=?_) (by (simp only [List.getElem?_toArray,List.getElem?_cons_succ,List.getElem?_cons_zero];rfl)) (Or.inl ⟨by rfl,?_⟩) ?_;rotate_left;(· (intro w9 hS9;(try dsimp only at hS9);(try (have u9:=bx15 hS9.1));go_simp;(try with_reducible rfl)))) | refine Ys.cons (v:=undef) (by (simp only [List.getElem?_toArray,List.getElem?_cons_succ,List.getElem?_cons_zero];rfl)) (Or.inr ⟨by rfl,rfl⟩) ?_);simp only [List.getElem_toArray,List.getElem_cons_succ,List.getElem_cons_zero,Act.put,List.setIfInBounds_toArray,List.set_cons_zero,List.set_cons_succ]));exact Ys.nil):XA P ops Q S n L a w:=XA.takes hs hQ hS is hc hy h
theorem XA.t0 (a':Act) (is:List Nat) {L:List Nat} {a:Act} {w:World} (hS:S w) (h:XA P ops Q S n (is.reverse ++ L) a' w)
    (hs:Region.noSelect ops = true:=by decide +kernel) (hQ:∀ c a w d v,Q (.panic c) (Act.put a d v) w → Q (.panic c) a w:=by (intro _ _ _ d _ h;cases d <;> exact h)) (hc:YtaccfnffmbndhaaGreat.takes0 ops n L is = true:=by decide +kernel)
    (hy:Ys P ops (fun _ => True) is a a':=by (try simp only [List.getElem_toArray,List.getElem_cons_succ,List.getElem_cons_zero,Act.put,List.setIfInBounds_toArray,List.set_cons_zero,List.set_cons_succ]);(repeat ((first | (refine Ys.cons (v:=?_) (by (simp only [List.getElem?_toArray,List.getElem?_cons_succ,List.getElem?_cons_zero];rfl)) (Or.inl ⟨by rfl,?_⟩) ?_;rotate_left;(· (intro w9 _;go_simp;(try with_reducible rfl)))) | refine Ys.cons (v:=undef) (by (simp only [List.getElem?_toArray,List.getElem?_cons_succ,List.getElem?_cons_zero];rfl)) (Or.inr ⟨by rfl,rfl⟩) ?_);simp only [List.getElem_toArray,List.getElem_cons_succ,List.getElem_cons_zero,Act.put,List.setIfInBounds_toArray,List.set_cons_zero,List.set_cons_succ]));exact Ys.nil):XA P ops Q S n L a w:=XA.takes0 hs hQ hS is hc hy h
theorem HA.c {L:List Nat} {a:Act} {w:World} (i:Nat) {f:FuncId} {args:Array Value} {R:Ending → World → Prop} {o:Oper} (hc:Calls P f args w R)
    (k:∀ e w',R e w' → ∃ v,e = .returned v ∧ S w' ∧ (S w' → HA P ops Q S (i :: L) (a.put o.dst v) w')) (ho:ops[i]? = some o:=by (simp only [List.getElem?_toArray,List.getElem?_cons_succ,List.getElem?_cons_zero];rfl)) (hr:readyF ops L = [i]:=by decide +kernel)
    (hw:Region.wanted o (yielded ops a.tmps) = true:=by rfl) (he:(execOp a.eval o).run P w = .ok (.enter f args) w:=by go_simp):HA P ops Q S L a w:=HA.call i hc ho hr hw he k
theorem XA.c {L:List Nat} {a:Act} {w:World} (i:Nat) {f:FuncId} {args:Array Value} {R:Ending → World → Prop} {o:Oper} (hc:Calls P f args w R)
    (k:∀ e w',R e w' → ∃ v,e = .returned v ∧ S w' ∧ (S w' → XA P ops Q S n (i :: L) (a.put o.dst v) w')) (ho:ops[i]? = some o:=by (simp only [List.getElem?_toArray,List.getElem?_cons_succ,List.getElem?_cons_zero];rfl)) (hr:readyF ops L = [i]:=by decide +kernel)
    (hw:Region.wanted o (yielded ops a.tmps) = true:=by rfl) (he:(execOp a.eval o).run P w = .ok (.enter f args) w:=by go_simp):XA P ops Q S n L a w:=XA.call i hc ho hr hw he k
theorem HA.d {L:List Nat} {a:Act} {w:World} (h:Q .normal a w) (hr:readyF ops L = []:=by decide +kernel):HA P ops Q S L a w:=⟨wpAnyH_done (by rw [readyF_eq];exact hr) h _⟩
theorem XA.e {l:List Oper} {L:List Nat} {a:Act} {w:World} (h:wpList P l.toArray Q (l.drop n) a w) (hf:unl (marked l.toArray.size L) = (l.drop n).length:=by rfl) (hB:seqF l.toArray (l.drop n).length n L = true:=by decide +kernel) :
    XA P l.toArray Q S n L a w:=XA.tail hf hB h
theorem HA.o {L:List Nat} {a:Act} {w:World} {o:Oper} (i:Nat)
    (h:∀ K':Act → World → Prop,Shut (∀ a w,S w → (S w → HA P ops Q S (i :: L) a w) → K' a w) → if Region.wanted o (yielded ops a.tmps) = true then Oper.wp P o a w K' Q else K' (a.put o.dst undef) w)
    (ho:ops[i]? = some o:=by (simp only [List.getElem?_toArray,List.getElem?_cons_succ,List.getElem?_cons_zero];rfl)) (hr:readyF ops L = [i]:=by decide +kernel):HA P ops Q S L a w:=HA.one i ho hr h
theorem XA.o {L:List Nat} {a:Act} {w:World} {o:Oper} (i:Nat)
    (h:∀ K':Act → World → Prop,Shut (∀ a w,S w → (S w → XA P ops Q S n (i :: L) a w) → K' a w) → if Region.wanted o (yielded ops a.tmps) = true then Oper.wp P o a w K' Q else K' (a.put o.dst undef) w)
    (ho:ops[i]? = some o:=by (simp only [List.getElem?_toArray,List.getElem?_cons_succ,List.getElem?_cons_zero];rfl)) (hr:readyF ops L = [i]:=by decide +kernel):XA P ops Q S n L a w:=XA.one i ho hr h
theorem HA.s {L:List Nat} {a:Act} {w:World} {o:Oper} (i:Nat) (w':World) (hS:S w') (k:HA P ops Q S (i :: L) (a.put o.dst undef) w') (ho:ops[i]? = some o:=by (simp only [List.getElem?_toArray,List.getElem?_cons_succ,List.getElem?_cons_zero];rfl))
    (hr:readyF ops L = [i]:=by decide +kernel) (hw:Region.wanted o (yielded ops a.tmps) = true:=by rfl) (he:(execOp a.eval o).run P w = .ok .skip w':=by go_simp):HA P ops Q S L a w:=by
  refine HA.one i ho hr fun K' hK => ?_
  rw [if_pos hw]
  unfold Oper.wp
  rw [he]
  exact hK.out _ _ hS fun _ => k
theorem HA.v {L:List Nat} {a:Act} {w:World} {o:Oper} (i:Nat) (w':World) (v:Value) (hS:S w') (k:HA P ops Q S (i :: L) (a.put o.dst v) w') (ho:ops[i]? = some o:=by (simp only [List.getElem?_toArray,List.getElem?_cons_succ,List.getElem?_cons_zero];rfl))
    (hr:readyF ops L = [i]:=by decide +kernel) (hw:Region.wanted o (yielded ops a.tmps) = true:=by rfl) (he:(execOp a.eval o).run P w = .ok (.value v) w':=by go_simp):HA P ops Q S L a w:=by
  refine HA.one i ho hr fun K' hK => ?_
  rw [if_pos hw]
  unfold Oper.wp
  rw [he]
  exact hK.out _ _ hS fun _ => k
end
end Go.Proofs.YtaccfnffmbndhaaGreat
namespace Go.Proofs.YtaccfnffmbndhaaGreat
open Go.RowKit
def szN (sz:List Int) (k:Nat):Nat:=(nth sz k).toNat
def cntN (sz:List Int):Nat → Nat
  | 0 => 0
  | k + 1 => cntN sz k + (szN sz k + 1) * szN sz (k + 1)
def midN (sz:List Int) (k:Nat):Nat:=cntN sz k + szN sz (k + 1) * szN sz k
def RightSz (sz:List Int):Prop:=(2 ≤ sz.length ∧ sz.length ≤ 16) ∧ ∀ k,k < sz.length → 1 ≤ nth sz k ∧ nth sz k ≤ 1048576
def GoodSz (sz:List Int):Prop:=RightSz sz ∧ cntN sz (sz.length - 1) ≤ 1048576
theorem RightSz.at {sz:List Int} (h:RightSz sz) {k:Nat} (hk:k < sz.length):1 ≤ szN sz k ∧ szN sz k ≤ 1048576 ∧ nth sz k = (szN sz k:Int):=by
  have:=h.2 k hk
  unfold szN;omega
theorem midN_eq (sz:List Int) (k:Nat):midN sz k + szN sz (k + 1) = cntN sz (k + 1):=by
  unfold midN
  rw [cntN,Nat.add_mul,Nat.one_mul,Nat.mul_comm (szN sz k)];omega
theorem RightSz.mul {sz:List Int} (h:RightSz sz) {k:Nat} (hk:k + 1 < sz.length):szN sz (k + 1) * szN sz k ≤ 1099511627776:=by
  have h1:=h.at hk
  have h2:=h.at (k:=k) (by omega)
  exact Nat.mul_le_mul h1.2.1 h2.2.1
theorem RightSz.cnt {sz:List Int} (h:RightSz sz):∀ k,k < sz.length → cntN sz k ≤ k * 1099512676352:=by
  intro k
  induction k with
  | zero => intro _;simp [cntN]
  | succ k ih =>
    intro hk
    have h1:=ih (by omega)
    have h2:=h.mul hk
    have h3:=(h.at hk).2.1
    have h4:=midN_eq sz k
    unfold midN at h4
    omega
theorem cntN_mono (sz:List Int) {j k:Nat} (h:j ≤ k):cntN sz j ≤ cntN sz k:=by
  induction h with
  | refl => exact Nat.le_refl _
  | step _ ih => rw [cntN];omega
theorem RightSz.bound {sz:List Int} (h:RightSz sz) {k:Nat} (hk:k < sz.length):cntN sz k ≤ 17592202821632:=by
  have h1:=h.cnt k hk
  have h2:=h.1.2
  have:k * 1099512676352 ≤ 16 * 1099512676352:=Nat.mul_le_mul_right _ (by omega)
  omega
theorem GoodSz.bound {sz:List Int} (h:GoodSz sz) {k:Nat} (hk:k < sz.length):cntN sz k ≤ 1048576:=Nat.le_trans (cntN_mono sz (by omega)) h.2
theorem GoodSz.mul {sz:List Int} (h:GoodSz sz) {k:Nat} (hk:k + 1 < sz.length):szN sz (k + 1) * szN sz k ≤ 1048576:=by
  have h1:=h.bound hk
  have h2:=midN_eq sz k
  unfold midN at h2
  omega
def wVals (sz:List Int) (k:Nat):List Value:=(List.range k).flatMap fun j => [.int .i64 (cntN sz j:Int),.int .i64 (midN sz j:Int)]
def bVals (sz:List Int) (k:Nat):List Value:=(List.range k).flatMap fun j => [.int .i64 (midN sz j:Int),.int .i64 (cntN sz (j + 1):Int)]
theorem wVals_succ (sz:List Int) (k:Nat):wVals sz (k + 1) = wVals sz k ++ [.int .i64 (cntN sz k:Int),.int .i64 (midN sz k:Int)]:=by simp [wVals,List.range_succ,List.flatMap_append]
theorem bVals_succ (sz:List Int) (k:Nat):bVals sz (k + 1) = bVals sz k ++ [.int .i64 (midN sz k:Int),.int .i64 (cntN sz (k + 1):Int)]:=by simp [bVals,List.range_succ,List.flatMap_append]
theorem wVals_len (sz:List Int) (k:Nat):(wVals sz k).length = k * 2:=by
  induction k with
  | zero => rfl
  | succ k ih => rw [wVals_succ,List.length_append,ih];simp;omega
theorem bVals_len (sz:List Int) (k:Nat):(bVals sz k).length = k * 2:=by
  induction k with
  | zero => rfl
  | succ k ih => rw [bVals_succ,List.length_append,ih];simp;omega
theorem wVals_at (sz:List Int) {j n:Nat} (h:j < n):(wVals sz n)[j * 2]? = some (.int .i64 (cntN sz j:Int)) ∧ (wVals sz n)[j * 2 + 1]? = some (.int .i64 (midN sz j:Int)):=by
  induction n with
  | zero => omega
  | succ n ih =>
    rw [wVals_succ]
    by_cases hj:j < n
    · have:=ih hj
      rw [List.getElem?_append_left (by rw [wVals_len];omega),List.getElem?_append_left (by rw [wVals_len];omega)]
      exact this
    · obtain rfl:j = n:=by omega
      rw [List.getElem?_append_right (by rw [wVals_len];omega),List.getElem?_append_right (by rw [wVals_len];omega),wVals_len]
      simp
theorem bVals_at (sz:List Int) {j n:Nat} (h:j < n):(bVals sz n)[j * 2]? = some (.int .i64 (midN sz j:Int)) ∧ (bVals sz n)[j * 2 + 1]? = some (.int .i64 (cntN sz (j + 1):Int)):=by
  induction n with
  | zero => omega
  | succ n ih =>
    rw [bVals_succ]
    by_cases hj:j < n
    · have:=ih hj
      rw [List.getElem?_append_left (by rw [bVals_len];omega),List.getElem?_append_left (by rw [bVals_len];omega)]
      exact this
    · obtain rfl:j = n:=by omega
      rw [List.getElem?_append_right (by rw [bVals_len];omega),List.getElem?_append_right (by rw [bVals_len];omega),bVals_len]
      simp
def ShapeAt (T:TypeId) (w:World) (b:Nat) (sz:List Int):Prop:=∃ A1 c1 A2 c2 A3 c3,
  w.heap[b]? = some (.cells #[.slice A1 sz.length c1,.slice A2 (sz.length - 1) c2,.slice A3 (sz.length - 1) c3,.int .i64 (cntN sz (sz.length - 1):Int)] T (0,0)) ∧
  Rd w A1 (nums .i64 sz) ∧ Rd w A2 (wVals sz (sz.length - 1)) ∧ Rd w A3 (bVals sz (sz.length - 1))
theorem ShapeAt.below {T:TypeId} {w w':World} {b:Nat} {sz:List Int} (h:ShapeAt T w b sz) (hb:Below w.heap.size w w'):ShapeAt T w' b sz:=by
  obtain ⟨A1,c1,A2,c2,A3,c3,h0,h1,h2,h3⟩:=h
  exact ⟨A1,c1,A2,c2,A3,c3,(hb.block b (lt_of_block h0)).trans h0,h1.below hb,h2.below hb,h3.below hb⟩
theorem ShapeAt.lt {T:TypeId} {w:World} {b:Nat} {sz:List Int} (h:ShapeAt T w b sz):b < w.heap.size:=by
  obtain ⟨A1,c1,A2,c2,A3,c3,h0,_⟩:=h
  exact lt_of_block h0
end Go.Proofs.YtaccfnffmbndhaaGreat
namespace Go.Proofs.YtaccfnffmbndhaaGreat
open Go.RowKit
theorem et_ints:ElemT Tryz.prog 22 3 (.int .i64 0) 1 8:=⟨Tryz.underlying22,info_parts (by kernel_rfl),rfl,by decide⟩
theorem iclone_any (A:Option Addr) (zs:List Int) (c:Nat) (w:World) (hA:Rd w A (nums .i64 zs)) (hl:zs.length ≤ 17592186043904) :
    Calls Tryz.prog 68 #[.slice A zs.length c] w fun e w' => ∃ v,e = .returned v ∧ w'.ownsRow w.heap.size 3 1 v zs.length (nums .i64 zs) ∧ Below w.heap.size w w':=by
  have q:=fun (w:World) => Lib.run_eql_slice_nil (P:=Tryz.prog) w 22 3 A zs.length c 0 0 Tryz.underlying22
  cases A with
  | none =>
    have hz:zs = []:=by
      cases zs with
      | nil => rfl
      | cons z l => obtain ⟨b,o,h,_⟩:=hA 0 _ rfl;cases h
    subst hz
    clear q
    have q:=fun (w:World) => Lib.run_eql_slice_nil (P:=Tryz.prog) w 22 3 none 0 c 0 0 Tryz.underlying22
    simp only [Option.isNone_none] at q
    rw [List.length_nil]
    go_enter Tryz.func68,Tryz.ntmps68
    go_wp2
    go_ret
    exact ⟨_,rfl,World.ownsRow_nil _ _ _ _,Below.refl _ _⟩
  | some a =>
    go_enter Tryz.func68,Tryz.ntmps68
    go_wp2_with (at_builtin;refine wpList_app et_ints _ rfl (.tmp 5) (.tmp 6) rfl w.heap.size _ 0 [] rfl (own_empty w 3 1) _ zs.length c (nums .i64 zs) rfl (hA.alloc _) (by rw [nums_length];omega) (nums_cell _ _) (by omega) (by unfold maxLen;omega) (by simp) ?_)
    intro A' c' w1 hown hb _ _
    have hb1:=((Below.refl _ w).alloc (Nat.le_refl _) (.cells #[] 3)).trans hb
    have Hown:=Lib.hid hown;have Hb1:=Lib.hid hb1;clear hown hb hb1
    go_wp2
    go_ret
    exact ⟨_,rfl,Hown.out,Hb1.out⟩
theorem shape_sizes (b:Nat) (sz:List Int) (w:World) (h:ShapeAt 186 w b sz) (hl:sz.length ≤ 17592186043904) :
    Calls Tryz.prog 168 #[.pointer (some ⟨b,0,none⟩)] w fun e w' => ∃ A c,e = .returned (.slice A sz.length c) ∧ w'.ownsRow w.heap.size 3 1 (.slice A sz.length c) sz.length (nums .i64 sz) ∧ Below w.heap.size w w':=by
  obtain ⟨A1,c1,A2,c2,A3,c3,h0,h1,h2,h3⟩:=h
  obtain ⟨⟨r0,r1,r2,r3⟩,rf⟩:=bx4 h0
  have hc:=iclone_any A1 sz c1 w h1 hl
  have Hc:=Lib.hid hc;clear hc h0 h1 h2 h3
  go_enter Tryz.func168,Tryz.ntmps168
  go_wp2_with fail
  refine Hc.out.mono ?_
  rintro e w1 ⟨v,rfl,hown,hb⟩
  obtain ⟨A',c',rfl,hc'⟩:=own_form hown
  have Hown:=Lib.hid hown;have Hb:=Lib.hid hb;clear hown hb hc'
  clear r0 r1 r2 r3 rf
  go_wp2
  go_ret
  exact ⟨_,_,rfl,Hown.out,Hb.out⟩
theorem shape_links (b:Nat) (sz:List Int) (w:World) (h:ShapeAt 186 w b sz) :
    Calls Tryz.prog 169 #[.pointer (some ⟨b,0,none⟩)] w fun e w' => e = .returned (.int .i64 ((sz.length - 1:Nat):Int)) ∧ w = w':=by
  obtain ⟨A1,c1,A2,c2,A3,c3,h0,h1,h2,h3⟩:=h
  obtain ⟨⟨r0,r1,r2,r3⟩,rf⟩:=bx4 h0
  clear h0 h1 h2 h3
  go_enter Tryz.func169,Tryz.ntmps169
  go_wp2
  go_ret
  exact ⟨rfl,rfl⟩
theorem shape_count (b:Nat) (sz:List Int) (w:World) (h:ShapeAt 186 w b sz) :
    Calls Tryz.prog 46 #[.pointer (some ⟨b,0,none⟩)] w fun e w' => e = .returned (.int .i64 (cntN sz (sz.length - 1):Int)) ∧ w = w':=by
  obtain ⟨A1,c1,A2,c2,A3,c3,h0,h1,h2,h3⟩:=h
  obtain ⟨⟨r0,r1,r2,r3⟩,rf⟩:=bx4 h0
  clear h0 h1 h2 h3
  go_enter Tryz.func46,Tryz.ntmps46
  go_wp2
  go_ret
  exact ⟨rfl,rfl⟩
set_option maxHeartbeats 400000 in
theorem shape_weights (b:Nat) (sz:List Int) (k:Nat) (w:World) (h:ShapeAt 186 w b sz) (hl:sz.length ≤ 17592186043904) (hk:k < sz.length - 1) :
    Calls Tryz.prog 170 #[.pointer (some ⟨b,0,none⟩),.int .i64 k] w fun e w' => e = .returned (.agg #[.int .i64 (cntN sz k:Int),.int .i64 (midN sz k:Int)]) ∧ Below w.heap.size w w':=by
  have hlk:=fun w' (hb:Below w.heap.size w w') => shape_links b sz w' (h.below hb)
  have hb0:=h.lt
  obtain ⟨A1,c1,A2,c2,A3,c3,h0,h1,h2,h3⟩:=h
  obtain ⟨n,hn⟩:∃ n,sz.length - 1 = n:=⟨_,rfl⟩
  rw [hn] at h0 h2 h3 hk hlk
  obtain ⟨⟨r0,r1,r2,r3⟩,rf⟩:=bx4 h0
  obtain ⟨e1,e2⟩:=wVals_at sz hk
  obtain ⟨b2,o2,rfl,p1⟩:=h2 _ _ e1
  obtain ⟨b2',o2',e',p2⟩:=h2 _ _ e2
  injection e' with e';injection e' with e3 e4 _
  subst e3;subst e4
  rw [show o2 + (k * 2 + 1) = o2 + k * 2 + 1 by omega] at p2
  have hb2:=lt_of_cell p1
  have Hlk:=Lib.hid hlk
  have hnl:n ≤ 17592186043904:=by omega
  clear hlk h0 h1 h2 h3 e1 e2 hn hl
  go_enter Tryz.func170,Tryz.ntmps170
  go_wp2_with fail
  refine (Hlk.out _ ?_).mono ?_
  · (focus (repeat' (first | (with_reducible exact Below.refl _ _) | (with_reducible assumption) | (with_reducible refine Below.setCell ?_ ?_ _) | (with_reducible refine Below.alloc ?_ ?_ _) | (with_reducible refine below_drewN ?_ _) | (with_reducible refine Below.drew ?_) | (with_reducible exact Nat.le_refl _) | omega | (simp;done) | (simp;omega))))
  rintro e w' ⟨rfl,rfl⟩
  have hlt:(k:Int) < n:=by omega
  go_wp2_with fail
  refine bodyPost_ret (v:=.agg #[.int .i64 (cntN sz k:Int),.int .i64 (midN sz k:Int)]) (by simp [results,Tryz.results170,go_sem]) rfl ⟨rfl,?_⟩
  (focus (repeat' (first | (with_reducible exact Below.refl _ _) | (with_reducible assumption) | (with_reducible refine Below.setCell ?_ ?_ _) | (with_reducible refine Below.alloc ?_ ?_ _) | (with_reducible refine below_drewN ?_ _) | (with_reducible refine Below.drew ?_) | (with_reducible exact Nat.le_refl _) | omega | (simp;done) | (simp;omega))))
set_option maxHeartbeats 400000 in
theorem shape_biases (b:Nat) (sz:List Int) (k:Nat) (w:World) (h:ShapeAt 186 w b sz) (hl:sz.length ≤ 17592186043904) (hk:k < sz.length - 1) :
    Calls Tryz.prog 171 #[.pointer (some ⟨b,0,none⟩),.int .i64 k] w fun e w' => e = .returned (.agg #[.int .i64 (midN sz k:Int),.int .i64 (cntN sz (k + 1):Int)]) ∧ Below w.heap.size w w':=by
  have hlk:=fun w' (hb:Below w.heap.size w w') => shape_links b sz w' (h.below hb)
  have hb0:=h.lt
  obtain ⟨A1,c1,A2,c2,A3,c3,h0,h1,h2,h3⟩:=h
  obtain ⟨n,hn⟩:∃ n,sz.length - 1 = n:=⟨_,rfl⟩
  rw [hn] at h0 h2 h3 hk hlk
  obtain ⟨⟨r0,r1,r2,r3⟩,rf⟩:=bx4 h0
  obtain ⟨e1,e2⟩:=bVals_at sz hk
  obtain ⟨b2,o2,rfl,p1⟩:=h3 _ _ e1
  obtain ⟨b2',o2',e',p2⟩:=h3 _ _ e2
  injection e' with e';injection e' with e3 e4 _
  subst e3;subst e4
  rw [show o2 + (k * 2 + 1) = o2 + k * 2 + 1 by omega] at p2
  have hb2:=lt_of_cell p1
  have Hlk:=Lib.hid hlk
  have hnl:n ≤ 17592186043904:=by omega
  clear hlk h0 h1 h2 h3 e1 e2 hn hl
  go_enter Tryz.func171,Tryz.ntmps171
  go_wp2_with fail
  refine (Hlk.out _ ?_).mono ?_
  · (focus (repeat' (first | (with_reducible exact Below.refl _ _) | (with_reducible assumption) | (with_reducible refine Below.setCell ?_ ?_ _) | (with_reducible refine Below.alloc ?_ ?_ _) | (with_reducible refine below_drewN ?_ _) | (with_reducible refine Below.drew ?_) | (with_reducible exact Nat.le_refl _) | omega | (simp;done) | (simp;omega))))
  rintro e w' ⟨rfl,rfl⟩
  have hlt:(k:Int) < n:=by omega
  go_wp2_with fail
  refine bodyPost_ret (v:=.agg #[.int .i64 (midN sz k:Int),.int .i64 (cntN sz (k + 1):Int)]) (by simp [results,Tryz.results171,go_sem]) rfl ⟨rfl,?_⟩
  (focus (repeat' (first | (with_reducible exact Below.refl _ _) | (with_reducible assumption) | (with_reducible refine Below.setCell ?_ ?_ _) | (with_reducible refine Below.alloc ?_ ?_ _) | (with_reducible refine below_drewN ?_ _) | (with_reducible refine Below.drew ?_) | (with_reducible exact Nat.le_refl _) | omega | (simp;done) | (simp;omega))))
end Go.Proofs.YtaccfnffmbndhaaGreat
