/- A call of one goroutine, at a row that says 'leaving', 'calm' and 'outside := [.timePasses]'. -/
import Derived.Conc.HoldsTime
import Derived.Handed
set_option linter.unusedSimpArgs false
set_option linter.unusedVariables false
namespace Go.Proofs.YtpegdddffenleaaGreatDoor

theorem onlyLeaving_of_quiet {P : Program} {m : Machine} (h : m.quiet) : m.OnlyLeaving P := by
  refine ⟨fun g hg => ⟨0, ?_⟩, h.2⟩
  have := h.1
  unfold Machine.othersDone at this
  rw [List.all_eq_true] at this
  exact eq_of_beq (this g hg)
theorem leaving_of_handed {a : Assume} {C : Checked} {os : Os} {f : FuncId} {r : Reach} {Pre : World → Array Value → Prop} {Post : World → Array Value → Value → World → Prop} (h : ReturnsInHanded a C os f r Pre Post) : ReturnsInLeavingWide a C os f r Pre Post := fun enter => by
  obtain ⟨h1, h2, h3, h4, h5⟩ := h enter
  refine ⟨h1, h2, h3, h4, fun w tape i hf => ?_⟩
  obtain ⟨n, v, w', k1, k2, k3, k4, ⟨j, last, k5, k6, k7⟩, k8⟩ := h5 w tape i hf
  exact ⟨n, v, w', k1, k2, k3, k4, ⟨j, last, k5, k6, k7.2.1, onlyLeaving_of_quiet k7.1, k7.2.2⟩, k8⟩
theorem os_same {W W' : World} (h : W'.os = W.os) : { W' with os := W.os } = W' := by rw [← h]
theorem leaving_of_change {H : Type} {enc : TypeId × Value → H} {a : Assume} {C : Checked} {os : Os} {f : FuncId} {fn : Func} {s : ChangeSpec} {F : Stop.Interp} {conds : List PathCond} {apart fresh handsOn : Bool}
    (own : ownKnob C.prog.godebug = none) (started : os.Started) (noInit : C.prog.inits.idxOf? f = none) (hfn : C.prog.funcs[f]? = some fn)
    (witness : ∃ (w : World) (tape : Tape) (i : Input), w.os = os ∧ (w.forCall tape i).Shaped C.prog ∧ i.vars = [] ∧ Input.okWide C.prog (w.forCall tape i) .any w.heap.size f i ∧
      s.pre6 enc C.prog fn conds apart (w.forCall tape i).memory i.args ∧ a.holds C.prog (lone (Frame.enter C.prog f i.args .normal) [] (w.forCall tape i)))
    (contract : ∀ (W : World) (base : Nat) (args : Array Value) (ds gs : List (DataW H)) (before : List MemPlace),
      (∀ (j : Nat) t v, fn.params[j]? = some t → args[j]? = some v → Value.okWide C.prog W .any base t v) →
      DataW.Whole enc C.prog fn.params.toList s.vars apart W args.toList ds gs before →
      conds.all (PathCond.test C.prog ⟨fn.params.toList, ds, s.plain.varTypes C.prog, gs⟩) = true →
      (DataW.weightsEach C.prog (fn.params.toList ++ s.plain.varTypes C.prog) (ds ++ gs)).all (· ≤ reachBytes) = true →
      Calls C.prog f args W fun e W' => ∃ v, e = .returned v ∧ s.post enc C.prog fn apart fresh handsOn false W args v W' ∧ W'.os = W.os) :
    ReturnsInLeavingWide a C os f .any (s.pre6 enc C.prog fn conds apart) ((OpenSpec.ofChange s).postWith enc C.prog fn F (outsideKept [.timePasses]) apart fresh handsOn) := by
  refine leaving_of_handed (returnsInHanded_of_calls own started noInit witness ?_)
  intro w tape i _ _ _ hok hpre _
  obtain ⟨_, _, _, fn', hfn', _, _, _, _, hval⟩ := hok
  have e : fn' = fn := Option.some.inj (hfn'.symm.trans hfn)
  subst e
  obtain ⟨⟨ds, gs, before, hw, hc⟩, hz⟩ := hpre
  have hw' := DataW.Whole.of_heap (w' := w.forCall tape i) (by rfl) hw
  refine (contract (w.forCall tape i) w.heap.size i.args ds gs before hval hw' hc (hz.weights hw)).mono fun e W' ⟨v, he, hp, hos⟩ => ?_
  subst he
  refine postWith_blind (postWith_of_post (by rw [os_same hos]; exact hp) ⟨0, ?_⟩)
  rw [hos]; simp
end Go.Proofs.YtpegdddffenleaaGreatDoor
