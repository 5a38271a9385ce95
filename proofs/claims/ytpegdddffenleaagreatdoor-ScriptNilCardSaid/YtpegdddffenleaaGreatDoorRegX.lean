/- A region that draws its order: what is held need only be held till one certain operation has come (the store that ends it). -/
import Derived.Test.YtpegdddffenleaaGreatDoorLib
import Derived.StillTail
import Derived.OrdersHeld
import Derived.Deep.RegionHeld
set_option linter.unusedSimpArgs false
set_option linter.unusedVariables false
namespace Go.Proofs.YtpegdddffenleaaGreatDoor
open Go.RowKit

section
variable {P : Program} {ops : Array Oper} {Q : Exit → Act → World → Prop} {md : Region.Mode} {S : World → Prop} {n : Nat}

/-- Whatever order is picked from here on, and S holds behind every operation that comes ahead of number n. -/
def wpAnyX (P : Program) (md : Region.Mode) (ops : Array Oper) (Q : Exit → Act → World → Prop) (S : World → Prop) (n : Nat) : Nat → Array Bool → Act → World → Prop
  | 0, listed, a, w => Region.ready md ops listed = [] ∧ Q .normal a w
  | fuel + 1, listed, a, w =>
    (Region.ready md ops listed = [] → Q .normal a w) ∧
    ∀ i ∈ Region.ready md ops listed, wpOp P ops Q i (fun a' w' => ((listed.setIfInBounds i true).getD n true = false → S w') ∧ wpAnyX P md ops Q S n fuel (listed.setIfInBounds i true) a' w') a w

theorem wpAny_of_X : ∀ (fuel : Nat) (listed : Array Bool) (a : Act) (w : World), wpAnyX P md ops Q S n fuel listed a w → wpAny P md ops Q fuel listed a w
  | 0, _, _, _, h => h
  | fuel + 1, _, _, _, h => ⟨h.1, fun i hi => wpOp_mono (fun a' w' h' => wpAny_of_X fuel _ a' w' h'.2) (h.2 i hi)⟩

theorem ready_ne {listed : Array Bool} {i j : Nat} (hB : Region.waitsFor md ops n i = true) (hi : i ∈ Region.ready md ops listed) (hj : j ∈ Region.ready md ops listed) : j ≠ n := fun hjn => by
  subst hjn
  obtain ⟨_, oj, hoj, hall⟩ := mem_ready.1 hj
  obtain ⟨o', ho', e, he, hb, hon⟩ := Region.waitsFor_spec hB
  have : o' = oj := Option.some.inj (ho'.symm.trans hoj)
  subst this
  have h2 := hall e he hb
  rw [hon, getD_both (mem_ready.1 hi).1] at h2
  cases h2

theorem wpAnyX_first {i : Nat} {oi : Oper} {v : Value} (hB : Region.waitsFor md ops n i = true) (hni : i ≠ n) (hi : ops[i]? = some oi) (hsel : ∀ (j : Nat) (o : Oper) cs b, ops[j]? = some o → o.op ≠ .select cs b)
    (hQ : ∀ c a w, Q (.panic c) (a.put oi.dst v) w → Q (.panic c) a w) :
    ∀ (fuel : Nat) (listed : Array Bool) (a : Act) (w : World),
      (∀ j oj, ops[j]? = some oj → j ≠ i → listed.getD j true = false → (∀ e ∈ oj.after, Region.binds md e = true → e.on ≠ i) → oi.apart ops oj = true) →
      i ∈ Region.ready md ops listed → YieldsIf P ops S oi v a → listed.getD n true = false → S w →
      wpAnyX P md ops Q S n fuel (listed.setIfInBounds i true) (a.put oi.dst v) w → wpAnyX P md ops Q S n (fuel + 1) listed a w := by
  intro fuel
  induction fuel with
  | zero =>
    intro listed a w _ hr hy hn hS H
    refine ⟨fun h => (by rw [h] at hr; cases hr), fun j hj => ?_⟩
    by_cases hji : j = i
    · subst hji; exact hy.wpOp hi hS ⟨fun _ => hS, H⟩
    · have := ready_mono hj hji
      rw [H.1] at this
      cases this
  | succ fuel ih =>
    intro listed a w hfree hr hy hn hS H
    refine ⟨fun h => (by rw [h] at hr; cases hr), fun j hj => ?_⟩
    by_cases hji : j = i
    · subst hji; exact hy.wpOp hi hS ⟨fun _ => hS, H⟩
    · have h1 := H.2 j (ready_mono hj hji)
      have hjn := ready_ne hB hr hj
      have getD_n : (listed.setIfInBounds j true).getD n true = false → ((listed.setIfInBounds i true).setIfInBounds j true).getD n true = false := fun h => by
        rw [Array.setIfInBounds_comm _ _ (Ne.symm hji), getD_set_ne true hni]; exact h
      obtain ⟨hjun, oj, hoj, hall⟩ := mem_ready.1 hj
      have hnot : ∀ e ∈ oj.after, Region.binds md e = true → e.on ≠ i := fun e he hb heq => by
        have h1 := hall e he hb
        rw [heq, getD_both (mem_ready.1 hr).1] at h1
        cases h1
      have h2 := wpOp_putIf hoj (hfree j oj hoj hji hjun hnot) (fun cs b => hsel i oi cs b hi) (fun cs b => hsel j oj cs b hoj) hQ hy h1
      have hfree' : ∀ k ok, ops[k]? = some ok → k ≠ i → (listed.setIfInBounds j true).getD k true = false →
          (∀ e ∈ ok.after, Region.binds md e = true → e.on ≠ i) → oi.apart ops ok = true := fun k ok hk hki hun hno => by
        refine hfree k ok hk hki ?_ hno
        by_cases hjk : j = k
        · subst hjk; exact hjun
        · rw [getD_set_ne true hjk] at hun; exact hun
      refine wpOp_mono (fun a' w' h3 => ⟨(fun h => h3.2.1 (getD_n h)), ih (listed.setIfInBounds j true) a' w' hfree' (ready_mono hr (Ne.symm hji)) h3.1 (by rw [getD_set_ne true hjn]; exact hn) (h3.2.1 (getD_n (by rw [getD_set_ne true hjn]; exact hn))) ?_⟩) h2
      rw [Array.setIfInBounds_comm _ _ hji]
      exact h3.2.2

theorem wpAnyX_first0 {i : Nat} {oi : Oper} {v : Value} (hni : i ≠ n) (hi : ops[i]? = some oi) (hsel : ∀ (j : Nat) (o : Oper) cs b, ops[j]? = some o → o.op ≠ .select cs b)
    (hQ : ∀ c a w, Q (.panic c) (a.put oi.dst v) w → Q (.panic c) a w) :
    ∀ (fuel : Nat) (listed : Array Bool) (a : Act) (w : World),
      (∀ j oj, ops[j]? = some oj → j ≠ i → listed.getD j true = false → (∀ e ∈ oj.after, Region.binds md e = true → e.on ≠ i) → oi.apart ops oj = true) →
      i ∈ Region.ready md ops listed → YieldsIf P ops (fun _ => True) oi v a → (listed.getD n true = false → S w) →
      wpAnyX P md ops Q S n fuel (listed.setIfInBounds i true) (a.put oi.dst v) w → wpAnyX P md ops Q S n (fuel + 1) listed a w := by
  intro fuel
  induction fuel with
  | zero =>
    intro listed a w _ hr hy hS H
    refine ⟨fun h => (by rw [h] at hr; cases hr), fun j hj => ?_⟩
    by_cases hji : j = i
    · subst hji; exact hy.wpOp hi trivial ⟨fun h => hS (by
        by_cases hin : j = n
        · subst hin; exact (mem_ready.1 hr).1
        · rwa [getD_set_ne true hin] at h), H⟩
    · have := ready_mono hj hji
      rw [H.1] at this
      cases this
  | succ fuel ih =>
    intro listed a w hfree hr hy hS H
    refine ⟨fun h => (by rw [h] at hr; cases hr), fun j hj => ?_⟩
    by_cases hji : j = i
    · subst hji; exact hy.wpOp hi trivial ⟨fun h => hS (by
        by_cases hin : j = n
        · subst hin; exact (mem_ready.1 hr).1
        · rwa [getD_set_ne true hin] at h), H⟩
    · have h1 := H.2 j (ready_mono hj hji)
      have getD_n : (listed.setIfInBounds j true).getD n true = false → ((listed.setIfInBounds i true).setIfInBounds j true).getD n true = false := fun h => by
        rw [Array.setIfInBounds_comm _ _ (Ne.symm hji), getD_set_ne true hni]; exact h
      obtain ⟨hjun, oj, hoj, hall⟩ := mem_ready.1 hj
      have hnot : ∀ e ∈ oj.after, Region.binds md e = true → e.on ≠ i := fun e he hb heq => by
        have h1 := hall e he hb
        rw [heq, getD_both (mem_ready.1 hr).1] at h1
        cases h1
      have h2 := wpOp_putIf hoj (hfree j oj hoj hji hjun hnot) (fun cs b => hsel i oi cs b hi) (fun cs b => hsel j oj cs b hoj) hQ hy h1
      have hfree' : ∀ k ok, ops[k]? = some ok → k ≠ i → (listed.setIfInBounds j true).getD k true = false →
          (∀ e ∈ ok.after, Region.binds md e = true → e.on ≠ i) → oi.apart ops ok = true := fun k ok hk hki hun hno => by
        refine hfree k ok hk hki ?_ hno
        by_cases hjk : j = k
        · subst hjk; exact hjun
        · rw [getD_set_ne true hjk] at hun; exact hun
      refine wpOp_mono (fun a' w' h3 => ⟨(fun h => h3.2.1 (getD_n h)), ih (listed.setIfInBounds j true) a' w' hfree' (ready_mono hr (Ne.symm hji)) h3.1 (fun h => h3.2.1 (getD_n h)) ?_⟩) h2
      rw [Array.setIfInBounds_comm _ _ hji]
      exact h3.2.2

/-- Take number i first. -/
theorem wpAnyX_take {i : Nat} {oi : Oper} {v : Value} {fuel : Nat} {listed : Array Bool} {a : Act} {w : World} (hi : ops[i]? = some oi) (hB : Region.waitsFor md ops n i = true) (hni : i ≠ n) (hn : listed.getD n true = false)
    (hs : Region.noSelect ops = true) (hf : Region.free md ops listed i = true) (hr : (Region.ready md ops listed).contains i = true)
    (hQ : ∀ c a w, Q (.panic c) (a.put oi.dst v) w → Q (.panic c) a w) (hy : YieldsIf P ops S oi v a) (hS : S w)
    (h : wpAnyX P md ops Q S n fuel (listed.setIfInBounds i true) (a.put oi.dst v) w) : wpAnyX P md ops Q S n (fuel + 1) listed a w :=
  wpAnyX_first hB hni hi (Region.noSelect_spec hs) hQ fuel listed a w (Region.free_spec hi hf) (by simpa using hr) hy hn hS h
/-- Take number i first, which yields in whatever world. -/
theorem wpAnyX_take0 {i : Nat} {oi : Oper} {v : Value} {fuel : Nat} {listed : Array Bool} {a : Act} {w : World} (hi : ops[i]? = some oi) (hni : i ≠ n)
    (hs : Region.noSelect ops = true) (hf : Region.free md ops listed i = true) (hr : (Region.ready md ops listed).contains i = true)
    (hQ : ∀ c a w, Q (.panic c) (a.put oi.dst v) w → Q (.panic c) a w) (hy : YieldsIf P ops (fun _ => True) oi v a) (hS : S w)
    (h : wpAnyX P md ops Q S n fuel (listed.setIfInBounds i true) (a.put oi.dst v) w) : wpAnyX P md ops Q S n (fuel + 1) listed a w :=
  wpAnyX_first0 hni hi (Region.noSelect_spec hs) hQ fuel listed a w (Region.free_spec hi hf) (by simpa using hr) hy (fun _ => hS) h

/-- The same with what is always said alike left to be found. -/
theorem wX {oi : Oper} {v : Value} {fuel : Nat} {listed : Array Bool} {a : Act} {w : World} (i : Nat) (hS : S w) (h : wpAnyX P .any ops Q S n fuel (listed.setIfInBounds i true) (a.put oi.dst v) w) (hi : ops[i]? = some oi := by rfl) (hB : Region.waitsFor .any ops n i = true := by kernel_rfl) (hni : i ≠ n := by decide) (hn : listed.getD n true = false := by kernel_rfl)
    (hs : Region.noSelect ops = true := by kernel_rfl) (hf : Region.free .any ops listed i = true := by kernel_rfl) (hr : (Region.ready .any ops listed).contains i = true := by kernel_rfl) (hQ : ∀ c a w, Q (.panic c) (a.put oi.dst v) w → Q (.panic c) a w := by exact fun _ _ _ h => h)
    (hy : YieldsIf P ops S oi v a := by (refine Or.inl ⟨by rfl, ?_⟩; intro w9 hS9; (try dsimp only at hS9); (first | obtain ⟨s1, s2, s3, s4, s5⟩ := hS9 | obtain ⟨s1, s2, s3, s4⟩ := hS9 | obtain ⟨s1, s2, s3⟩ := hS9 | obtain ⟨s1, s2⟩ := hS9 | skip); go_simp; (try with_reducible rfl))) : wpAnyX P .any ops Q S n (fuel + 1) listed a w := wpAnyX_take hi hB hni hn hs hf hr hQ hy hS h
theorem wX0 {oi : Oper} {v : Value} {fuel : Nat} {listed : Array Bool} {a : Act} {w : World} (i : Nat) (hS : S w) (h : wpAnyX P .any ops Q S n fuel (listed.setIfInBounds i true) (a.put oi.dst v) w) (hi : ops[i]? = some oi := by rfl) (hni : i ≠ n := by decide)
    (hs : Region.noSelect ops = true := by kernel_rfl) (hf : Region.free .any ops listed i = true := by kernel_rfl) (hr : (Region.ready .any ops listed).contains i = true := by kernel_rfl) (hQ : ∀ c a w, Q (.panic c) (a.put oi.dst v) w → Q (.panic c) a w := by exact fun _ _ _ h => h)
    (hy : YieldsIf P ops (fun _ => True) oi v a := by (refine Or.inl ⟨by rfl, ?_⟩; intro w9 _; go_simp; (try with_reducible rfl))) : wpAnyX P .any ops Q S n (fuel + 1) listed a w := wpAnyX_take0 hi hni hs hf hr hQ hy hS h
def AllReadyX (P : Program) (md : Region.Mode) (ops : Array Oper) (Q : Exit → Act → World → Prop) (S : World → Prop) (n : Nat) (fuel : Nat) (listed : Array Bool) (a : Act) (w : World) (rs : List Nat) : Prop :=
  ∀ i ∈ rs, wpOp P ops Q i (fun a' w' => ((listed.setIfInBounds i true).getD n true = false → S w') ∧ wpAnyX P md ops Q S n fuel (listed.setIfInBounds i true) a' w') a w
theorem AllReadyX.nil {fuel : Nat} {listed : Array Bool} {a : Act} {w : World} : AllReadyX P md ops Q S n fuel listed a w [] := fun _ h => by cases h
theorem AllReadyX.cons {fuel : Nat} {listed : Array Bool} {a : Act} {w : World} {i : Nat} {o : Oper} {rs : List Nat} (ho : ops[i]? = some o)
    (h : ∀ K' : Act → World → Prop, Shut (∀ a w, S w → (S w → wpAnyX P md ops Q S n fuel (listed.setIfInBounds i true) a w) → K' a w) → if Region.wanted o (yielded ops a.tmps) = true then Oper.wp P o a w K' Q else K' (a.put o.dst undef) w)
    (hs : AllReadyX P md ops Q S n fuel listed a w rs) : AllReadyX P md ops Q S n fuel listed a w (i :: rs) := fun j hj => by
  rcases List.mem_cons.1 hj with rfl | hj
  · exact wpOp_step ho (fun K' hK => h K' (fun a w hS hW => hK a w ⟨fun _ => hS, hW hS⟩))
  · exact hs j hj
theorem wpAnyX_ready {rs : List Nat} {fuel : Nat} {listed : Array Bool} {a : Act} {w : World} (hr : Region.ready md ops listed = rs) (hne : rs ≠ [])
    (h : AllReadyX P md ops Q S n fuel listed a w rs) : wpAnyX P md ops Q S n (fuel + 1) listed a w := ⟨fun h0 => absurd (hr ▸ h0) hne, hr ▸ h⟩

/-- The end, one after the other. -/
theorem wpAnyX_seq : ∀ (l : List Oper) (k : Nat) (listed : Array Bool) (a : Act) (w : World), (k ≠ n → listed.getD n true = true) → (∀ j, l[j]? = ops[k + j]?) →
    Region.seqB md ops l.length k listed = true → wpList P ops Q l a w → wpAnyX P md ops Q S n l.length listed a w
  | [], _, _, _, _, _, _, hB, h => ⟨by simpa [Region.seqB] using hB, h⟩
  | o :: l, k, listed, a, w, hk, hl, hB, h => by
    have h0 : ops[k]? = some o := by simpa using (hl 0).symm
    simp only [List.length_cons, Region.seqB, Bool.and_eq_true, decide_eq_true_eq] at hB
    have hset : (listed.setIfInBounds k true).getD n true = true := by
      by_cases hkn : k = n
      · subst hkn
        rcases Nat.lt_or_ge k listed.size with h' | h'
        · simp [h']
        · simp [Nat.not_lt.2 h']
      · rw [getD_set_ne true hkn]; exact hk hkn
    refine ⟨fun h1 => (by rw [hB.1] at h1; cases h1), fun i hi => ?_⟩
    rw [hB.1] at hi
    have hik : i = k := by simpa using hi
    subst hik
    have hw : wpOp P ops Q i (wpList P ops Q l) a w := by unfold wpOp; simp only [h0]; exact h
    exact wpOp_mono (fun a' w' h' => ⟨fun h => (by rw [hset] at h; cases h), wpAnyX_seq l (i + 1) _ a' w' (fun _ => hset) (fun j => by have := hl (j + 1); simpa [Nat.add_assoc, Nat.add_comm 1 j] using this) hB.2 h'⟩) hw
theorem wpAnyX_tail {l : List Oper} {fuel : Nat} {listed : Array Bool} {a : Act} {w : World} (hf : fuel = (l.drop n).length) (hB : Region.seqB md l.toArray (l.drop n).length n listed = true) (h : wpList P l.toArray Q (l.drop n) a w) :
    wpAnyX P md l.toArray Q S n fuel listed a w := by
  subst hf
  exact wpAnyX_seq (l.drop n) n listed a w (fun h => absurd rfl h) (fun j => by simp [List.getElem?_drop]) hB h

/-- 'append(out, xs...)' on a row of the call's own, as the step that comes up. -/
theorem step_appX {t e : TypeId} {z : Value} {size bytes : Nat} (T : ElemT P t e z size bytes) {w : World} {o : Oper} {tm : Array Value} {a : Act} {K : Act → World → Prop} {E : Prop}
    (s x : Operand) (hgd : o.guard = none) (ho : o.op = .call { callee := .builtin .append, args := #[s, x], argTypes := #[t, t] })
    (base : Nat) (v : Value) (n : Nat) (xs : List Value) (hs : a.eval s = v) (hown : w.ownsRow base e size v n xs)
    (A : Option Addr) (m c : Nat) (us : List Value) (hx : a.eval x = .slice A m c) (hr : Rd w A us) (hus : us.length = m * size) (h1 : ∀ u ∈ us, u.oneCell' = true)
    (hb : (n + m) * bytes ≤ 140737488355328) (h63 : n + m ≤ maxLen) (hbase : base ≤ w.heap.size)
    (h : ∀ A' c' w', w'.ownsRow base e size (.slice A' (n + m) c') (n + m) (xs ++ us) → Below base w w' → w.grownBy w' v.ownBlock → ((Value.slice A' (n + m) c').ownBlock = v.ownBlock ∨ (Value.slice A' (n + m) c').ownBlock = some w.heap.size) → K (a.put o.dst (.slice A' (n + m) c')) w') :
    if Region.wanted o (yielded ops tm) = true then Oper.wp P o a w K Q else E := by
  rw [if_pos (by simp [Region.wanted, hgd])]
  have := step_app (ops := ops) (K := K) (Q := Q) (E := E) T hgd s x ho base v n xs hs hown A m c us hx hr hus h1 hb h63 hbase h
  rwa [if_pos (by simp [Region.wanted, hgd])] at this

/-- The beginning. -/
theorem wp_region_X (n : Nat) (S : World → Prop) {id : Nat} {a : Act} {w : World} (hm : P.follows .mixedOrders = true)
    (h : wpAnyX P .any ops Q S n ops.size (Array.replicate ops.size false) a w.drew) : (Code.region id ops true).wp P Q a w :=
  wp_region_any hm (wpAny_of_X _ _ _ _ h)
end
end Go.Proofs.YtpegdddffenleaaGreatDoor
