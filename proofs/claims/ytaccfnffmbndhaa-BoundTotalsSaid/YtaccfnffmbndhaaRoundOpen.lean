/- A region that draws its order, within a round: by the plain calculus. -/
import Derived.Test.YtaccfnffmbndhaaRfLib
import Derived.Test.YtaccfnffmbndhaaRgn
import Derived.Deep.RegionHeld
set_option linter.unusedSimpArgs false
set_option linter.unusedVariables false
namespace Go.Proofs.Ytaccfnffmbndhaa
open Go.RowKit Go.Shelf

theorem rows_inRound {l n : Nat} {P : Program} {row : String} {args : Array Value} {w : World} {R : Value → World → Prop} (h : Rows P row args w R) : RowsIn (Fence.wide.inRound l) n P row args w R :=
  fun c cs _ => let ⟨v, w', r, s⟩ := h c cs; ⟨v, w', r, (stepsIn_wide (P := P)).2 s⟩

theorem oper_inRound {l n : Nat} {P : Program} {o : Oper} {a : Act} {w : World} {K : Act → World → Prop} {Q : Exit → Act → World → Prop} (hnd : ∀ c, o.op ≠ .defer c) (h : o.wp P a w K Q) : o.wpIn (Fence.wide.inRound l) n P a w K Q := by
  unfold Oper.wp at h
  unfold Oper.wpIn
  refine ⟨fun _ _ => trivial, ?_⟩
  rw [Oper.semAt_plain _ _ _ hnd]
  generalize (execOp a.eval o).run P w = r at *
  cases r with
  | ok x w' =>
    cases x <;> simp only [Oper.upon, Oper.uponIn] at h ⊢ <;>
      first
        | exact h
        | exact ⟨fun h' => (by cases h'), CallsIn.inRound l (callsIn_wide.2 h)⟩
        | exact ⟨fun h' => (by cases h'), rows_inRound h⟩
        | exact h.elim
  | halt x w' => cases x <;> simp only [Oper.upon, Oper.uponIn] at h ⊢ <;> exact h

theorem wpOp_inRound {l n : Nat} {P : Program} {ops : Array Oper} {Q : Exit → Act → World → Prop} (hnd : ∀ (i : Nat) (o : Oper), ops[i]? = some o → ∀ c, o.op ≠ .defer c) (hno : ¬ LetsOut Q) {i : Nat} {K : Act → World → Prop} {a : Act} {w : World}
    (h : wpOp P ops Q i K a w) : wpOpIn (Fence.wide.inRound l) n P ops Q i K a w := by
  unfold wpOp at h
  unfold wpOpIn
  split at h
  · rename_i hi; simp only [hi]; exact h
  · rename_i o hi
    simp only [hi]
    split at h
    · rename_i hw
      rw [if_pos hw]
      rcases h with h | ⟨_, h⟩
      · exact oper_inRound (hnd i o hi) h
      · exact absurd h hno
    · rename_i hw
      rw [if_neg hw]
      exact ⟨fun _ _ => trivial, h⟩

theorem wpAny_inRound {l n : Nat} {P : Program} {md : Region.Mode} {ops : Array Oper} {Q : Exit → Act → World → Prop} (hnd : ∀ (i : Nat) (o : Oper), ops[i]? = some o → ∀ c, o.op ≠ .defer c) (hno : ¬ LetsOut Q) : ∀ (fuel : Nat) (listed : Array Bool) (a : Act) (w : World),
    wpAny P md ops Q fuel listed a w → wpAnyIn (Fence.wide.inRound l) n P md ops Q fuel listed a w
  | 0, _, _, _, h => h
  | fuel + 1, _, _, _, h => ⟨h.1, fun i hi => wpOpIn_mono (fun a' w' h' => wpAny_inRound hnd hno fuel _ a' w' h') (wpOp_inRound hnd hno (h.2 i hi))⟩

/-- No operation defers. -/
def Defers : Op → Bool
  | .defer _ => true
  | _ => false
theorem noDefer {ops : Array Oper} (h : ops.all (fun o => !Defers o.op) = true) : ∀ (i : Nat) (o : Oper), ops[i]? = some o → ∀ c, o.op ≠ .defer c := fun i o ho c e => by
  have := (Array.all_eq_true.1 h) i (Array.getElem?_eq_some_iff.1 ho).1
  rw [(Array.getElem?_eq_some_iff.1 ho).2, e] at this
  cases this

/-- **The beginning of a region that draws its order, in a round.** -/
theorem region_inRound {l n : Nat} {P : Program} {ops : Array Oper} {Q : Exit → Act → World → Prop} (S : World → Prop) {id : Nat} {a : Act} {w : World} (hm : P.follows .mixedOrders = true) (hnd : ops.all (fun o => !Defers o.op) = true) (hno : ¬ LetsOut Q)
    (h : wpAnyH P .any ops Q S ops.size (Array.replicate ops.size false) a w.drew) : (Code.region id ops true).wpIn (Fence.wide.inRound l) n P Q a w :=
  wpIn_region_any hm (wpAny_inRound (noDefer hnd) hno _ _ _ _ (wpAny_of_held _ _ _ _ h))

/-! The same, in few steps. -/
theorem HA.r {P : Program} {ops : Array Oper} {Q : Exit → Act → World → Prop} {l n id : Nat} {a : Act} {w : World} (S : World → Prop) (h : HA P ops Q S [] a w.drew) (hm : P.follows .mixedOrders = true := by kernel_rfl) (hnd : ops.all (fun o => !Defers o.op) = true := by kernel_rfl) (hno : ¬ LetsOut Q := by (rintro ⟨_, _, h⟩; exact h)) :
    (Code.region id ops true).wpIn (Fence.wide.inRound l) n P Q a w := by
  have h' := h.out
  rw [unl_marked] at h'
  exact region_inRound S hm hnd hno h'
theorem XA.r {P : Program} {ops : Array Oper} {Q : Exit → Act → World → Prop} {l m id : Nat} {a : Act} {w : World} (n : Nat) (S : World → Prop) (h : XA P ops Q S n [] a w.drew) (hm : P.follows .mixedOrders = true := by kernel_rfl) (hnd : ops.all (fun o => !Defers o.op) = true := by kernel_rfl) (hno : ¬ LetsOut Q := by (rintro ⟨_, _, h⟩; exact h)) :
    (Code.region id ops true).wpIn (Fence.wide.inRound l) m P Q a w := by
  have h' := h.out
  rw [unl_marked] at h'
  exact wpIn_region_any hm (wpAny_inRound (noDefer hnd) hno _ _ _ _ (wpAny_of_X _ _ _ _ h'))
/-- Nothing but the normal way out is left open. -/
theorem wide_then {K : Act → World → Prop} {Q' : Exit → Act → World → Prop} {n : Nat} {P : Program} {c : Code} {a : Act} {w : World} (h : c.wp P (Exit.then K fun _ _ _ => False) a w) : c.wpIn Fence.wide n P (Exit.then K Q') a w :=
  wpIn_mono (wpIn_wide.2 h) fun e _ _ he => by cases e <;> first | exact he | exact he.elim
end Go.Proofs.Ytaccfnffmbndhaa
