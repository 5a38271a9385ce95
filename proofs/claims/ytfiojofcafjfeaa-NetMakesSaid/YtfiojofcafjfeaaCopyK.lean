/- 'copy(out[i:j], xs)', out a row that is known whole: all other blocks stay. -/
import Derived.Test.YtfiojofcafjfeaaLib
import Derived.Laws.CopyOwn
set_option linter.unusedSimpArgs false
set_option linter.unusedVariables false
namespace Go.Proofs.Ytfiojofcafjfeaa
open Go.RowKit

theorem wpList_copyK {P : Program} {w : World} {ops : Array Oper} {rest : List Oper} {o : Oper} {a : Act} {Q : Exit → Act → World → Prop} (hgd : o.guard = none) (d s : Operand) (dT sT : TypeId)
    (ho : o.op = .call { callee := .builtin .copy, args := #[d, s], argTypes := #[dT, sT] }) (elem : TypeId) (hu : P.underlying dT = some (.slice elem)) (hsz : (P.info? elem).map (·.size) = some 1)
    (dp sp : Option Addr) (n dCap sCap : Nat) (hd : a.eval d = .slice dp n dCap) (hs : a.eval s = .slice sp n sCap)
    (g off : Nat) (cur : List Value) (t : TypeId) (hg : w.heap[g]? = some (.cells cur.toArray t (0, 0))) (cs : List Value) (hn : cs.length = n) (hdp : 0 < n → dp = some ⟨g, off, none⟩) (hr : Rd w sp cs)
    (hfit : off + cs.length ≤ cur.length) (h1 : ∀ v ∈ cs, v.oneCell' = true)
    (h : ∀ w', Hid (w'.heap[g]? = some (.cells (splice cur off cs).toArray t (0, 0))) → Keep (fun i => i = g) w w' → wpList P ops Q rest (a.put o.dst (goInt cs.length)) w') :
    wpList P ops Q (o :: rest) a w := by
  by_cases h0 : cs.length = 0
  · obtain rfl : cs = [] := List.eq_nil_of_length_eq_zero h0
    refine wpList_copy_nothing hgd d s dT sT ho elem hu hsz dp sp n dCap n sCap hd hs (by simp at hn; subst hn; rfl) ?_
    exact h w (show _ = _ by simpa [splice] using hg) (Keep.refl _ _)
  · obtain rfl := hdp (by omega)
    have hx : ∃ ad, sp = some ad ∧ ∀ j v, cs[j]? = some v → w.cell? (ad.add j) = some v := by
      obtain ⟨b, o', hsp, _⟩ := hr 0 cs[0] (List.getElem?_eq_getElem (by omega))
      refine ⟨_, hsp, fun j v hv => ?_⟩
      obtain ⟨b2, o2, e, hc⟩ := hr j v hv
      rw [hsp] at e
      injection e with e
      injection e with e1 e2 _
      subst e1; subst e2
      rw [Addr.add_lit]
      exact hc
    obtain ⟨ad, rfl, hsrc⟩ := hx
    refine wpList_copy_own hgd d s dT sT ho elem hu hsz g off n dCap ad n sCap hd hs cur.toArray t hg cs (by rw [hn]; exact (Nat.min_self n).symm) hsrc (by simpa using hfit) h1 ?_
    exact h _ (show _ = _ by simpa [splice] using setRow_heap w g _ _ t _ hg) ⟨rfl, rfl, rfl, by simp [World.setRow], fun k hk hn => setRow_other w g k _ hn⟩

/-- The same as one step of a region that draws its order. -/
theorem step_copyK {P : Program} {w : World} {ops : Array Oper} {tm : Array Value} {o : Oper} {a : Act} {K : Act → World → Prop} {Q : Exit → Act → World → Prop} {E : Prop} (d s : Operand) (dT sT : TypeId) (hgd : o.guard = none)
    (ho : o.op = .call { callee := .builtin .copy, args := #[d, s], argTypes := #[dT, sT] }) (elem : TypeId) (hu : P.underlying dT = some (.slice elem)) (hsz : (P.info? elem).map (·.size) = some 1)
    (dp sp : Option Addr) (n dCap sCap : Nat) (hd : a.eval d = .slice dp n dCap) (hs : a.eval s = .slice sp n sCap)
    (g off : Nat) (cur : List Value) (t : TypeId) (hg : w.heap[g]? = some (.cells cur.toArray t (0, 0))) (cs : List Value) (hn : cs.length = n) (hdp : 0 < n → dp = some ⟨g, off, none⟩) (hr : Rd w sp cs)
    (hfit : off + cs.length ≤ cur.length) (h1 : ∀ v ∈ cs, v.oneCell' = true)
    (h : ∀ w', Hid (w'.heap[g]? = some (.cells (splice cur off cs).toArray t (0, 0))) → Keep (fun i => i = g) w w' → K (a.put o.dst (goInt cs.length)) w') :
    if Region.wanted o (yielded ops tm) = true then Oper.wp P o a w K Q else E := by
  rw [if_pos (by simp [Region.wanted, hgd])]
  by_cases h0 : cs.length = 0
  · obtain rfl : cs = [] := List.eq_nil_of_length_eq_zero h0
    have hrun := run_copy_none (P := P) w dT sT o.type elem dp sp n dCap n sCap hu hsz (by simp at hn; subst hn; rfl)
    unfold Oper.wp
    simp [execOp, ho, resolve, invoke, builtin, hd, hs, hrun, Result.andThen]
    exact h w (show _ = _ by simpa [splice] using hg) (Keep.refl _ _)
  · obtain rfl := hdp (by omega)
    have hx : ∃ ad, sp = some ad ∧ ∀ j v, cs[j]? = some v → w.cell? (ad.add j) = some v := by
      obtain ⟨b, o', hsp, _⟩ := hr 0 cs[0] (List.getElem?_eq_getElem (by omega))
      refine ⟨_, hsp, fun j v hv => ?_⟩
      obtain ⟨b2, o2, e, hc⟩ := hr j v hv
      rw [hsp] at e
      injection e with e
      injection e with e1 e2 _
      subst e1; subst e2
      rw [Addr.add_lit]
      exact hc
    obtain ⟨ad, rfl, hsrc⟩ := hx
    have hrun := run_copy_row (P := P) w dT sT o.type elem g off n dCap ad n sCap cur.toArray t cs hu hsz hg (by rw [hn]; exact (Nat.min_self n).symm) hsrc (by simpa using hfit) h1
    unfold Oper.wp
    simp [execOp, ho, resolve, invoke, builtin, hd, hs, hrun, Result.andThen]
    exact h _ (show _ = _ by simpa [splice] using setRow_heap w g _ _ t _ hg) ⟨rfl, rfl, rfl, by simp [World.setRow], fun k hk hn => setRow_other w g k _ hn⟩

/-- A row that is full is a block known whole. -/
theorem own_full {w : World} {base : Nat} {e : TypeId} {g n : Nat} {xs : List Value} (h : w.ownsRow base e 1 (.slice (some ⟨g, 0, none⟩) n n) n xs) : w.heap[g]? = some (.cells xs.toArray e (0, 0)) := by
  rcases h.2 with ⟨h0, _⟩ | ⟨g', cap, cur, hv, _, hg, _, _, hs, ht⟩
  · cases h0
  · simp only [Value.slice.injEq, Option.some.injEq, Addr.mk.injEq, and_true, true_and] at hv
    obtain ⟨rfl, rfl⟩ := hv
    rw [Nat.mul_one] at hs ht
    have : cur = xs.toArray := by
      rw [← ht, List.take_of_length_le (by simp [hs])]
    rw [← this]
    exact hg
theorem nums_splice (q : IntKind) (a b : List Int) (off : Nat) : splice (nums q a) off (nums q b) = nums q (splice a off b) := by
  unfold splice
  rw [nums_take, nums_length, nums_drop, ← nums_append, ← nums_append]
theorem rd_whole {w : World} {g : Nat} {e : TypeId} {xs : List Value} (h : w.heap[g]? = some (.cells xs.toArray e (0, 0))) : Rd w (some ⟨g, 0, none⟩) xs := fun k u hu => by
  refine ⟨g, 0, rfl, ?_⟩
  rw [Nat.zero_add, cell_of_row w g k xs.toArray e (0, 0) h]
  simpa using hu
/-- A block known whole is a full row. -/
theorem full_own {w : World} {base : Nat} {e : TypeId} {g : Nat} {xs : List Value} (h : w.heap[g]? = some (.cells xs.toArray e (0, 0))) (hb : base ≤ g) (hm : xs.length ≤ maxLen) : w.ownsRow base e 1 (.slice (some ⟨g, 0, none⟩) xs.length xs.length) xs.length xs :=
  ⟨by simp, .inr ⟨g, xs.length, xs.toArray, rfl, hb, h, Nat.le_refl _, hm, by simp, by simp⟩⟩
theorem splice2_drop {o W D : List Int} {lo : Nat} (h : lo + W.length + D.length ≤ o.length) : (splice (splice o lo W) (lo + W.length) D).drop lo = W ++ (D ++ o.drop (lo + W.length + D.length)) := by
  have e0 : splice o lo W = (o.take lo ++ W) ++ o.drop (lo + W.length) := by unfold splice; rw [List.append_assoc]
  have l1 : (o.take lo ++ W).length = lo + W.length := by rw [List.length_append, List.length_take]; omega
  have e1 : (splice o lo W).take (lo + W.length) = o.take lo ++ W := by rw [e0, ← l1, List.take_left]
  have e2 : (splice o lo W).drop (lo + W.length + D.length) = o.drop (lo + W.length + D.length) := by
    rw [e0, List.drop_append, l1, List.drop_of_length_le (by rw [l1]; omega), List.nil_append, List.drop_drop]
    congr 1
    omega
  have e3 : splice (splice o lo W) (lo + W.length) D = o.take lo ++ (W ++ (D ++ o.drop (lo + W.length + D.length))) := by
    show (splice o lo W).take (lo + W.length) ++ (D ++ (splice o lo W).drop (lo + W.length + D.length)) = _
    rw [e1, e2, List.append_assoc]
  have l2 : (o.take lo).length = lo := by rw [List.length_take]; omega
  rw [e3]
  conv => lhs; rw [← l2]
  rw [l2, List.drop_append_of_le_length (by rw [l2]; exact Nat.le_refl _), List.drop_of_length_le (by rw [l2]; exact Nat.le_refl _), List.nil_append]
end Go.Proofs.Ytfiojofcafjfeaa
