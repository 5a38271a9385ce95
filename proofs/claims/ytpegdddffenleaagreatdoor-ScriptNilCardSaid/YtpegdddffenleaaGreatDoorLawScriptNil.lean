/- ScriptNil returns true for every input, and each argument reads afterwards as it did: the statement and its tied card, out of the walk. -/
import Derived.Test.YtpegdddffenleaaGreatDoorRows
import Derived.Test.YtpegdddffenleaaGreatDoorCards
import Derived.Test.YtpegdddffenleaaGreatDoorTie
import Derived.Test.YtpegdddffenleaaGreatDoorScn6
import Derived.Test.YtpegdddffenleaaGreatDoorScnG
import Derived.Test.YtpegdddffenleaaGreatDoorScnL
import Derived.Test.YtpegdddffenleaaGreatDoorLeaveLib
import Derived.Test.YtpegdddffenleaaGreatDoorOpn
import Derived.SizedLaws
import Derived.ProofKit
import Derived.OpenShut
import Derived.ChangeOld
import Derived.Below
import Derived.Deep.DeepHandedRow
import Derived.Lib.LaidTab
set_option linter.unusedSimpArgs false
set_option linter.unusedVariables false
namespace Go.Proofs.YtpegdddffenleaaGreatDoor.scriptNil
open Go.ChangeShapes Go.WideShapes Go.ChangeAt Go.RowKit
set_option linter.unusedVariables false

theorem own : ownKnob Tryz.prog.godebug = none := by kernel_rfl

theorem leaving_of_row {H : Type} {enc : TypeId × Value → H} {a : Assume} {C : Checked} {os : Os} {f : FuncId} {fn : Func} {s : ChangeSpec} {F : Stop.Interp} {conds : List PathCond} {apart fresh handsOn : Bool} {laid : List (String × DataW Unit)}
    (own : ownKnob C.prog.godebug = none) (started : os.Started) (noInit : C.prog.inits.idxOf? f = none) (hfn : C.prog.funcs[f]? = some fn)
    (witness : ∃ (w : World) (tape : Tape) (i : Input), w.os = os ∧ (w.forCall tape i).Shaped C.prog ∧ i.vars = [] ∧ Input.okWide C.prog (w.forCall tape i) .any w.heap.size f i ∧
      (OpenSpec.ofChange s).preRow enc C.prog fn conds apart laid (w.forCall tape i).memory i.args ∧ a.holds C.prog (lone (Frame.enter C.prog f i.args .normal) [] (w.forCall tape i)))
    (contract : ∀ (W : World) (base : Nat) (args : Array Value) (ds gs : List (DataW H)) (before : List MemPlace),
      (∀ (j : Nat) t v, fn.params[j]? = some t → args[j]? = some v → Value.okWide C.prog W .any base t v) →
      DataW.Whole enc C.prog fn.params.toList s.vars apart W args.toList ds gs before →
      (DataW.weightsEach C.prog (fn.params.toList ++ s.plain.varTypes C.prog) (ds ++ gs)).all (· ≤ reachBytes) = true →
      laidMetH C.prog laid W → W.ShapedOpen C.prog →
      Calls C.prog f args W fun e W' => ∃ v, e = .returned v ∧ s.post enc C.prog fn apart fresh handsOn false W args v W' ∧ W'.os = W.os) :
    ReturnsInLeavingWide a C os f .any ((OpenSpec.ofChange s).preRow enc C.prog fn conds apart laid) ((OpenSpec.ofChange s).postWith enc C.prog fn F (outsideKept [.timePasses]) apart fresh handsOn) := by
  refine leaving_of_handed (returnsInHanded_of_calls own started noInit witness ?_)
  intro w tape i _ hsh _ hok hpre _
  obtain ⟨_, _, _, fn', hfn', _, _, _, _, hval⟩ := hok
  have e : fn' = fn := Option.some.inj (hfn'.symm.trans hfn)
  subst e
  obtain ⟨⟨hp, hl⟩, hz⟩ := hpre
  obtain ⟨ds, gs, before, hw, hc, hk⟩ := OpenSpec.pre_parts hp
  have hw' := DataW.Whole.of_heap (w' := w.forCall tape i) (by rfl) hw
  refine (contract (w.forCall tape i) w.heap.size i.args ds gs before hval hw' (hz.weights hw) (hl.of_heap (by rfl)) hsh).mono fun e W' ⟨v, he, hp, hos⟩ => ?_
  subst he
  refine postWith_blind (postWith_of_post (by rw [os_same hos]; exact hp) ⟨0, ?_⟩)
  rw [hos]; simp

theorem witnessN (os : Os) {H : Type} (enc : TypeId × Value → H) : ∃ (w : World) (tape : Tape) (i : Input), w.os = os ∧ (w.forCall tape i).Shaped Tryz.prog ∧ i.vars = [] ∧ Input.okWide Tryz.prog (w.forCall tape i) .any w.heap.size 4 i ∧
      (OpenSpec.ofChange Rows.scriptNilSpec).preRow enc Tryz.prog Tryz.f4 Rows.scriptNilRow.domain false Rows.scriptNilRow.laid (w.forCall tape i).memory i.args ∧ ({ calm := true } : Assume).holds Tryz.prog (lone (Frame.enter Tryz.prog 4 i.args .normal) [] (w.forCall tape i)) := by
  have hok : Input.okWideB Tryz.prog ((wNil os).forCall (fun _ _ => 0) ⟨#[], aNil, []⟩) 4 ⟨#[], aNil, []⟩ = true := by kernel_rfl
  have hx : ∃ x, DataW.whole enc Tryz.prog ((wNil os).forCall (fun _ _ => 0) ⟨#[], aNil, []⟩).memory Tryz.f4.params.toList Rows.scriptNilSpec.vars false aNil.toList 8 = some x := Option.isSome_iff_exists.1 (by kernel_rfl)
  obtain ⟨x, hx⟩ := hx
  refine ⟨wNil os, fun _ _ => 0, ⟨#[], aNil, []⟩, rfl, World.shaped_of_B (by kernel_rfl) (by kernel_rfl), (Input.okWide_of_okWideB (base := 0) hok).1, (Input.okWide_of_okWideB hok).2,
    OpenSpec.preRow_of_cond 8 hx (by rfl) (fun k hk => by cases hk) (by kernel_rfl) (nilLaid os), ?_⟩
  simp only [Assume.holds]
  exact ⟨by simp, fun _ _ _ _ => rfl, by simp, by simp, by simp⟩

set_option maxRecDepth 100000 in
theorem lifted (os : Os) (started : os.Started) (H : Type) (enc : TypeId × Value → H) (F : Stop.Interp) :
    ReturnsInLeavingWide { calm := true } Tryz.checked os 4 .any ((OpenSpec.ofChange Rows.scriptNilSpec).preRow enc Tryz.prog Tryz.f4 Rows.scriptNilRow.domain false Rows.scriptNilRow.laid) ((OpenSpec.ofChange Rows.scriptNilSpec).postWith enc Tryz.prog Tryz.f4 F (outsideKept [.timePasses]) false true false) := by
  refine leaving_of_row (C := Tryz.checked) own started (by kernel_rfl) Tryz.func4 (witnessN os enc) ?_
  intro W base args ds gs before hval0 hW hsz0 hL hSh
  have hval : ∀ (j : Nat) t v, Tryz.f4.params[j]? = some t → args[j]? = some v → Value.okWide Tryz.prog W .any base t v := hval0
  have hW' := hW
  obtain ⟨p, q, hA0, hV, rfl, hfz, hnd⟩ := hW
  have hA : DataW.TrodAll enc Tryz.prog W 0 (fun _ => true) true Tryz.f4.params.toList args.toList ds p := hA0
  have hsz : (DataW.weightsEach Tryz.prog (Tryz.f4.params.toList ++ []) (ds ++ gs)).all (· ≤ reachBytes) = true := hsz0
  rw [Tryz.params4] at hA hval hsz
  obtain ⟨v0, vs0, d0, ds0, p0, q0, hargs, rfl, rfl, h0, r0⟩ := trodAll_cons hA
  obtain ⟨rfl, rfl, rfl⟩ := trodAll_nil r0
  obtain rfl : args = #[v0] := by cases args; simp_all
  obtain ⟨rfl, rfl⟩ := trodVars_none hV
  have lt0 : ∀ x ∈ p0, x.block < W.heap.size := by obtain ⟨m, hm⟩ := h0; exact DataW.trod_lt m _ _ _ hm
  have o0 := hval 0 9 v0 rfl rfl
  have h0' := h0
  obtain ⟨s, rfl, -, -, -⟩ := Go.ChangeMaps.open_string Tryz.underlying9 o0 h0'
  clear hA0 hval0 hsz0 hsz
  refine (ScriptNil_walk s W (Tryz.laysM146.s1_3 W hSh)).mono fun e W' ⟨he, bel⟩ => ?_
  subst he
  exact ⟨_, rfl, ⟨_, _, _, [], _, [], hW', trodAll_mk1 (shut_bool Tryz.underlying4 _), (trodAll_cons_mk (Below.trod scnLaid (by kernel_rfl) (of_decide_eq_true (by kernel_rfl)) h0 bel lt0) trodAll_mk0), rfl, bel.frame _, fun h => by cases h⟩, bel.os⟩

theorem over : Rows.scriptNilRow.holds Tryz.pinned (OpenSpec.ofChange Rows.scriptNilSpec) :=
  OpenClaim.holds_of_wide_leaving_time 4 Tryz.f4 rfl rfl rfl rfl rfl rfl rfl ⟨rfl, rfl, rfl, rfl, rfl⟩ rfl rfl rfl rfl rfl scnA Tryz.func4 scnB
    (of_decide_eq_true (by kernel_rfl)) (by unfold Func.isWrapper; first | (rw [if_pos (by decide +kernel)]; kernel_rfl) | (rw [if_neg (by decide +kernel)]; exact ⟨rfl, rfl⟩))
    (fun os started H enc _ F => by rw [OpenClaim.pre_eq_preRow]; exact lifted os started H enc F)
theorem said : Rows.ScriptNilSaid := over
theorem plain (f : FuncId) (fn : Func) (hf : Tryz.pinned.checked.prog.funcNamed "sakia/sakialaw26.ScriptNil" = some f) (hfn : Tryz.pinned.checked.prog.funcs[f]? = some fn) :
    true = Tryz.pinned.checked.prog.looks [] ∧ ∀ (j : Nat) t, fn.params[j]? = some t → Tryz.pinned.checked.prog.wantsStandIn t = false := by
  obtain rfl : f = 4 := Option.some.inj ((show Tryz.prog.funcNamed "sakia/sakialaw26.ScriptNil" = some 4 by kernel_rfl).symm.trans hf) |>.symm
  obtain rfl : fn = Tryz.f4 := (Option.some.inj (Tryz.func4.symm.trans hfn)).symm
  refine ⟨by kernel_rfl, fun j t ht => ?_⟩
  rw [Tryz.params4] at ht
  have hm : t ∈ [9] := by simpa using Array.mem_of_getElem? ht
  have hall : ([9].all fun u => !Tryz.prog.wantsStandIn u) = true := by kernel_rfl
  exact (show Tryz.prog.wantsStandIn t = false by simpa using List.all_eq_true.1 hall t hm)
/-- THE CARD. -/
theorem proved : Rows.ScriptNilCardSaid := by
  have h6 : Claim7.isSixth { stood := { row := Rows.scriptNilRow, standIns := [], harness := (true, "a2c5d1d00ce4e7258a9e025c92534a60052ad7615f4ac2a2550ca81394b08f80"), looks := true }, kinds := [] } = false := by simp [Claim7.isSixth]
  exact ⟨Claim7.tied_new_at .later [.data, .data, .data, .data, .sentinel, .sentinel, .pinned] true (Claim7.new_of_sixth said _ _ rfl ⟨rfl, rfl⟩ (by kernel_rfl) h6 plain) (by kernel_rfl), (fun D hD => by cases hD), scriptNil_row_tie, (fun h => by cases h), by kernel_rfl⟩
#print axioms proved
end Go.Proofs.YtpegdddffenleaaGreatDoor.scriptNil
