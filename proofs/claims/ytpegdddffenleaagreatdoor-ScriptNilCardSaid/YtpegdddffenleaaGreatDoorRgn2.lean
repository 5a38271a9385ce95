/- Regions that draw their order, where two or three steps may come up. -/
import Derived.Test.YtpegdddffenleaaGreatDoorRgn
set_option linter.unusedSimpArgs false
set_option linter.unusedVariables false
namespace Go.Proofs.YtpegdddffenleaaGreatDoor

section
variable {P : Program} {ops : Array Oper} {Q : Exit → Act → World → Prop} {S : World → Prop}
/-- What number i does, should it come up. -/
structure HAS (P : Program) (ops : Array Oper) (Q : Exit → Act → World → Prop) (S : World → Prop) (i : Nat) (L : List Nat) (a : Act) (w : World) : Prop where
  out : ∃ o, ops[i]? = some o ∧ ∀ K' : Act → World → Prop, Shut (∀ a w, S w → (S w → HA P ops Q S (i :: L) a w) → K' a w) → if Region.wanted o (yielded ops a.tmps) = true then Oper.wp P o a w K' Q else K' (a.put o.dst undef) w
theorem HAS.c {L : List Nat} {a : Act} {w : World} {i : Nat} {f : FuncId} {args : Array Value} {R : Ending → World → Prop} {o : Oper} (hc : Calls P f args w R)
    (k : ∀ e w', R e w' → ∃ v, e = .returned v ∧ S w' ∧ (S w' → HA P ops Q S (i :: L) (a.put o.dst v) w')) (ho : ops[i]? = some o := by (simp only [List.getElem?_toArray, List.getElem?_cons_succ, List.getElem?_cons_zero]; rfl))
    (hw : Region.wanted o (yielded ops a.tmps) = true := by rfl) (he : (execOp a.eval o).run P w = .ok (.enter f args) w := by go_simp) : HAS P ops Q S i L a w := by
  refine ⟨o, ho, fun K' hK => ?_⟩
  rw [if_pos hw]
  unfold Oper.wp
  rw [he]
  refine hc.mono fun e w' hR => ?_
  obtain ⟨v, rfl, hS, h⟩ := k e w' hR
  exact hK.out _ _ hS h
theorem HAS.v {L : List Nat} {a : Act} {w : World} {i : Nat} {o : Oper} (w' : World) (v : Value) (hS : S w') (k : HA P ops Q S (i :: L) (a.put o.dst v) w') (ho : ops[i]? = some o := by (simp only [List.getElem?_toArray, List.getElem?_cons_succ, List.getElem?_cons_zero]; rfl))
    (hw : Region.wanted o (yielded ops a.tmps) = true := by rfl) (he : (execOp a.eval o).run P w = .ok (.value v) w' := by go_simp) : HAS P ops Q S i L a w := by
  refine ⟨o, ho, fun K' hK => ?_⟩
  rw [if_pos hw]
  unfold Oper.wp
  rw [he]
  exact hK.out _ _ hS fun _ => k
theorem HA.two {L : List Nat} {a : Act} {w : World} (i j : Nat) (hi : HAS P ops Q S i L a w) (hj : HAS P ops Q S j L a w) (hr : readyF ops L = [i, j] := by decide +kernel) : HA P ops Q S L a w := by
  obtain ⟨oi, hoi, hi⟩ := hi
  obtain ⟨oj, hoj, hj⟩ := hj
  have ei : unl (marked ops.size L) = unl (marked ops.size (i :: L)) + 1 := marked_ready (by rw [hr]; simp)
  have ej : unl (marked ops.size L) = unl (marked ops.size (j :: L)) + 1 := marked_ready (by rw [hr]; simp)
  have ee : unl (marked ops.size (j :: L)) = unl (marked ops.size (i :: L)) := by omega
  refine ⟨?_⟩
  rw [ei]
  refine wpAnyH_ready (by rw [readyF_eq]; exact hr) (by simp) (AllReadyH.cons hoi (fun K' hK => hi K' fun a w hS hw => hK.out a w hS fun hS' => (hw hS').out) (AllReadyH.cons hoj (fun K' hK => hj K' fun a w hS hw => hK.out a w hS fun hS' => ?_) AllReadyH.nil))
  have := (hw hS').out
  rw [ee] at this
  exact this
theorem HA.three {L : List Nat} {a : Act} {w : World} (i j k : Nat) (hi : HAS P ops Q S i L a w) (hj : HAS P ops Q S j L a w) (hk : HAS P ops Q S k L a w) (hr : readyF ops L = [i, j, k] := by decide +kernel) : HA P ops Q S L a w := by
  obtain ⟨oi, hoi, hi⟩ := hi
  obtain ⟨oj, hoj, hj⟩ := hj
  obtain ⟨ok, hok, hk⟩ := hk
  have ei : unl (marked ops.size L) = unl (marked ops.size (i :: L)) + 1 := marked_ready (by rw [hr]; simp)
  have ej : unl (marked ops.size L) = unl (marked ops.size (j :: L)) + 1 := marked_ready (by rw [hr]; simp)
  have ek : unl (marked ops.size L) = unl (marked ops.size (k :: L)) + 1 := marked_ready (by rw [hr]; simp)
  have e1 : unl (marked ops.size (j :: L)) = unl (marked ops.size (i :: L)) := by omega
  have e2 : unl (marked ops.size (k :: L)) = unl (marked ops.size (i :: L)) := by omega
  refine ⟨?_⟩
  rw [ei]
  refine wpAnyH_ready (by rw [readyF_eq]; exact hr) (by simp) (AllReadyH.cons hoi (fun K' hK => hi K' fun a w hS hw => hK.out a w hS fun hS' => (hw hS').out) (AllReadyH.cons hoj (fun K' hK => hj K' fun a w hS hw => hK.out a w hS fun hS' => ?_) (AllReadyH.cons hok (fun K' hK => hk K' fun a w hS hw => hK.out a w hS fun hS' => ?_) AllReadyH.nil)))
  · have := (hw hS').out
    rw [e1] at this
    exact this
  · have := (hw hS').out
    rw [e2] at this
    exact this
end
end Go.Proofs.YtpegdddffenleaaGreatDoor
