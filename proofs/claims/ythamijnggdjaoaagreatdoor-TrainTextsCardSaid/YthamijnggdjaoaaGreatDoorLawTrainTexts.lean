/- TrainTexts returns true for every input, and each argument reads afterwards as it did: the statement and its tied card, out of the walk. -/
import Derived.Test.YthamijnggdjaoaaGreatDoorRows
import Derived.Test.YthamijnggdjaoaaGreatDoorCards
import Derived.Test.YthamijnggdjaoaaGreatDoorTie
import Derived.Test.YthamijnggdjaoaaGreatDoorT12
import Derived.Test.YthamijnggdjaoaaGreatDoorT01
import Derived.SizedLaws
import Derived.ProofKit
import Derived.OpenShut
import Derived.ChangeOld
import Derived.Below
import Derived.Deep.DeepHandedRow
import Derived.Lib.LaidTab
set_option linter.unusedSimpArgs false
set_option linter.unusedVariables false
namespace Go.Proofs.YthamijnggdjaoaaGreatDoor.trainTexts
open Go.ChangeShapes Go.WideShapes Go.ChangeAt Go.RowKit
set_option linter.unusedVariables false

theorem own : ownKnob Tryz.prog.godebug = none := by kernel_rfl

theorem leaving_of_row {H : Type} {enc : TypeId × Value → H} {a : Assume} {C : Checked} {os : Os} {f : FuncId} {fn : Func} {s : ChangeSpec} {F : Stop.Interp} {conds : List PathCond} {apart fresh handsOn : Bool} {laid : List (String × DataW Unit)}
    (own : ownKnob C.prog.godebug = none) (started : os.Started) (noInit : C.prog.inits.idxOf? f = none) (hfn : C.prog.funcs[f]? = some fn)
    (witness : ∃ (w : World) (tape : Tape) (i : Input), w.os = os ∧ (w.forCall tape i).Shaped C.prog ∧ i.vars = [] ∧ Input.okWide C.prog (w.forCall tape i) .any w.heap.size f i ∧
      (OpenSpec.ofChange s).preRow enc C.prog fn conds apart laid (w.forCall tape i).memory i.args ∧ a.holds C.prog (lone (Frame.enter C.prog f i.args .normal) [] (w.forCall tape i)))
    (contract : ∀ (W : World) (base : Nat) (args : Array Value) (ds gs : List (DataW H)) (before : List MemPlace),
      (∀ (j : Nat) t v, fn.params[j]? = some t → args[j]? = some v → Value.okWide C.prog W .any base t v) →
      DataW.Whole enc C.prog fn.params.toList s.vars apart W args.toList ds gs before →
      (DataW.weightsEach C.prog (fn.params.toList ++ s.plain.varTypes C.prog) (ds ++ gs)).all (· ≤ reachBytes) = true →
      laidMetH C.prog laid W →
      Calls C.prog f args W fun e W' => ∃ v, e = .returned v ∧ s.post enc C.prog fn apart fresh handsOn false W args v W' ∧ W'.os = W.os) :
    ReturnsInLeavingWide a C os f .any ((OpenSpec.ofChange s).preRow enc C.prog fn conds apart laid) ((OpenSpec.ofChange s).postWith enc C.prog fn F (outsideKept [.timePasses]) apart fresh handsOn) := by
  refine leaving_of_handed (returnsInHanded_of_calls own started noInit witness ?_)
  intro w tape i _ hsh _ hok hpre _
  obtain ⟨_, _, _, fn', hfn', _, _, _, _, hval⟩ := hok
  have e : fn' = fn := Option.some.inj (hfn'.symm.trans hfn)
  subst e
  obtain ⟨⟨hp, hl⟩, hz⟩ := hpre
  obtain ⟨ds, gs, before, hw, hc, hk⟩ := OpenSpec.pre_parts hp
  have hw' := DataW.Whole.of_heap (w' := w.forCall tape i) (by rfl) hw
  refine (contract (w.forCall tape i) w.heap.size i.args ds gs before hval hw' (hz.weights hw) (hl.of_heap (by rfl))).mono fun e W' ⟨v, he, hp, hos⟩ => ?_
  subst he
  refine postWith_blind (postWith_of_post (by rw [os_same hos]; exact hp) ⟨0, ?_⟩)
  rw [hos]; simp

theorem gTab : Tryz.prog.globalNamed "internal/strconv.uint64pow10" = some 0 := by kernel_rfl
theorem gTabType : (Tryz.prog.globals[0]?).map (·.type) = some 279 := by kernel_rfl
theorem laid_tail {P : Program} {x : String × DataW Unit} {r : List (String × DataW Unit)} {w : World} (h : laidMet P (x :: r) w) : laidMet P r w := by
  obtain ⟨n, d⟩ := x
  obtain ⟨ps, ⟨g, t, cs, fuel, p, q, -, -, -, -, hq, rfl⟩, hn, hb⟩ := h
  exact ⟨q, hq, (List.nodup_append.1 hn).2.1, fun b off hm => hb b off (List.mem_append.2 (.inr hm))⟩
theorem table {W : World} (h : laidMetH Tryz.prog Rows.trainTextsRow.laid W) : Lib.TabIs Tryz.prog W "internal/strconv.uint64pow10" .u64 Lib.pow10Tab := by
  have h1 : laidMet Tryz.prog [("math/bits.deBruijn32tab", Rows.laid_math_bits_deBruijn32tab), ("math/bits.deBruijn64tab", Rows.laid_math_bits_deBruijn64tab), ("internal/strconv.uint64pow10", Rows.laid_internal_strconv_uint64pow10)] W := h
  have h2 := laid_tail (laid_tail h1)
  exact Lib.tabIs_of_head (rest := []) (n := 20) gTab gTabType Tryz.underlying279 Tryz.underlying76 (by kernel_rfl) (by kernel_rfl) h2

/-- The cells that a datum of a table lays. -/
def cellsOfTab : DataW Unit → Array Value
  | .agg l => (l.map fun d => match d with | .lit (.int k z) => Value.int k z | _ => undef).toArray
  | _ => #[]
/-- A block that holds a table. -/
def put (xs : Array Value) : Obj → Obj
  | .cells _ t frozen => .cells xs t frozen
  | o => o
noncomputable def wArgs : Array Value := #[.agg #[.slice none 0 0, .int .i64 0, .int .i64 0, .int .i64 0, .int .i64 0, .int .i64 0, .int .i64 0, .int .i64 0, .int .i64 0, .int .i64 0, .int .i64 0, .int .i64 0, .slice none 0 0, .slice none 0 0, .slice none 0 0], .int .i64 0]
noncomputable def laidWorld (os : Os) : World :=
  { World.holding Tryz.prog os ⟨#[], #[], []⟩ with heap := (((World.holding Tryz.prog os ⟨#[], #[], []⟩).heap.modify 0 (put (cellsOfTab Rows.laid_internal_strconv_uint64pow10))).modify 2 (put (cellsOfTab Rows.laid_math_bits_deBruijn32tab))).modify 3 (put (cellsOfTab Rows.laid_math_bits_deBruijn64tab)) }
theorem laid_met (os : Os) : laidMet Tryz.prog Rows.trainTextsRow.laid ((laidWorld os).forCall (fun _ _ => 0) ⟨#[], wArgs, []⟩).memory :=
  laidMet_of_run' 8 (by kernel_rfl) (by kernel_rfl)
theorem witnessT (os : Os) {H : Type} (enc : TypeId × Value → H) : ∃ (w : World) (tape : Tape) (i : Input), w.os = os ∧ (w.forCall tape i).Shaped Tryz.prog ∧ i.vars = [] ∧ Input.okWide Tryz.prog (w.forCall tape i) .any w.heap.size 3 i ∧
      (OpenSpec.ofChange Rows.trainTextsSpec).preRow enc Tryz.prog Tryz.f3 Rows.trainTextsRow.domain false Rows.trainTextsRow.laid (w.forCall tape i).memory i.args ∧ ({ calm := true } : Assume).holds Tryz.prog (lone (Frame.enter Tryz.prog 3 i.args .normal) [] (w.forCall tape i)) := by
  have hok : Input.okWideB Tryz.prog ((laidWorld os).forCall (fun _ _ => 0) ⟨#[], wArgs, []⟩) 3 ⟨#[], wArgs, []⟩ = true := by kernel_rfl
  have hx : ∃ x, DataW.whole enc Tryz.prog ((laidWorld os).forCall (fun _ _ => 0) ⟨#[], wArgs, []⟩).memory Tryz.f3.params.toList Rows.trainTextsSpec.vars false wArgs.toList 8 = some x := Option.isSome_iff_exists.1 (by kernel_rfl)
  obtain ⟨x, hx⟩ := hx
  refine ⟨laidWorld os, fun _ _ => 0, ⟨#[], wArgs, []⟩, rfl, World.shaped_of_B (by kernel_rfl) (by kernel_rfl), (Input.okWide_of_okWideB (base := 0) hok).1, (Input.okWide_of_okWideB hok).2,
    OpenSpec.preRow_of_cond 8 hx (by rfl) (fun k hk => by cases hk) (by kernel_rfl) (laid_met os), ?_⟩
  simp only [Assume.holds]
  exact ⟨by simp, fun _ _ _ _ => rfl, by simp, by simp, by simp⟩

set_option maxRecDepth 100000 in
theorem lifted (os : Os) (started : os.Started) (H : Type) (enc : TypeId × Value → H) (F : Stop.Interp) :
    ReturnsInLeavingWide { calm := true } Tryz.checked os 3 .any ((OpenSpec.ofChange Rows.trainTextsSpec).preRow enc Tryz.prog Tryz.f3 Rows.trainTextsRow.domain false Rows.trainTextsRow.laid) ((OpenSpec.ofChange Rows.trainTextsSpec).postWith enc Tryz.prog Tryz.f3 F (outsideKept [.timePasses]) false true false) := by
  refine leaving_of_row (C := Tryz.checked) own started (by kernel_rfl) Tryz.func3 (witnessT os enc) ?_
  intro W base args ds gs before hval0 hW hsz0 hL
  have hval : ∀ (j : Nat) t v, Tryz.f3.params[j]? = some t → args[j]? = some v → Value.okWide Tryz.prog W .any base t v := hval0
  have hW' := hW
  obtain ⟨p, q, hA0, hV, rfl, hfz, hnd⟩ := hW
  have hA : DataW.TrodAll enc Tryz.prog W 0 (fun _ => true) true Tryz.f3.params.toList args.toList ds p := hA0
  have hsz : (DataW.weightsEach Tryz.prog (Tryz.f3.params.toList ++ []) (ds ++ gs)).all (· ≤ reachBytes) = true := hsz0
  rw [Tryz.params3] at hA hval hsz
  obtain ⟨v0, vs0, d0, ds0, p0, q0, hargs, rfl, rfl, h0, r0⟩ := trodAll_cons hA
  obtain ⟨v1, vs1, d1, ds1, p1, q1, rfl, rfl, rfl, h1, r1⟩ := trodAll_cons r0
  obtain ⟨rfl, rfl, rfl⟩ := trodAll_nil r1
  obtain rfl : args = #[v0, v1] := by cases args; simp_all
  obtain ⟨rfl, rfl⟩ := trodVars_none hV
  have lt0 : ∀ x ∈ p0, x.block < W.heap.size := by obtain ⟨m, hm⟩ := h0; exact DataW.trod_lt m _ _ _ hm
  have o0 := hval 0 29 v0 rfl rfl
  have lt1 : ∀ x ∈ p1, x.block < W.heap.size := by obtain ⟨m, hm⟩ := h1; exact DataW.trod_lt m _ _ _ hm
  have z0 : Light Tryz.prog 29 d0 := light_of_all hsz (i := 0) rfl rfl
  have h1' := h1
  obtain ⟨t, rfl, -, -⟩ := open_int Tryz.underlying3 (hval 1 3 v1 rfl rfl) h1'
  clear hA0 hval0 hsz0 hsz
  refine (TrainTexts_walk W o0 h0 z0 (table hL)).mono fun e W' ⟨he, bel⟩ => ?_
  subst he
  exact ⟨_, rfl, ⟨_, _, _, [], _, [], hW', trodAll_mk1 (shut_bool Tryz.underlying4 _), (trodAll_cons_mk (Below.trod ttxLaid (by kernel_rfl) (of_decide_eq_true (by kernel_rfl)) h0 bel lt0) (trodAll_cons_mk (Below.trod ttxLaid (by kernel_rfl) (of_decide_eq_true (by kernel_rfl)) h1 bel lt1) trodAll_mk0)), rfl, bel.frame _, fun h => by cases h⟩, bel.os⟩

theorem over : Rows.trainTextsRow.holds Tryz.pinned (OpenSpec.ofChange Rows.trainTextsSpec) :=
  OpenClaim.holds_of_wide_leaving_time 3 Tryz.f3 rfl rfl rfl rfl rfl rfl rfl ⟨rfl, rfl, rfl, rfl, rfl⟩ rfl rfl rfl rfl rfl ttxA Tryz.func3 ttxB
    (of_decide_eq_true (by kernel_rfl)) (by unfold Func.isWrapper; first | (rw [if_pos (by decide +kernel)]; kernel_rfl) | (rw [if_neg (by decide +kernel)]; exact ⟨rfl, rfl⟩))
    (fun os started H enc _ F => by rw [OpenClaim.pre_eq_preRow]; exact lifted os started H enc F)
theorem said : Rows.TrainTextsSaid := over
theorem plain (f : FuncId) (fn : Func) (hf : Tryz.pinned.checked.prog.funcNamed "sakia/sakialaw25.TrainTexts" = some f) (hfn : Tryz.pinned.checked.prog.funcs[f]? = some fn) :
    false = Tryz.pinned.checked.prog.looks [] ∧ ∀ (j : Nat) t, fn.params[j]? = some t → Tryz.pinned.checked.prog.wantsStandIn t = false := by
  obtain rfl : f = 3 := Option.some.inj ((show Tryz.prog.funcNamed "sakia/sakialaw25.TrainTexts" = some 3 by kernel_rfl).symm.trans hf) |>.symm
  obtain rfl : fn = Tryz.f3 := (Option.some.inj (Tryz.func3.symm.trans hfn)).symm
  refine ⟨by kernel_rfl, fun j t ht => ?_⟩
  rw [Tryz.params3] at ht
  have hm : t ∈ [29, 3] := by simpa using Array.mem_of_getElem? ht
  have hall : ([29, 3].all fun u => !Tryz.prog.wantsStandIn u) = true := by kernel_rfl
  exact (show Tryz.prog.wantsStandIn t = false by simpa using List.all_eq_true.1 hall t hm)
/-- THE CARD. -/
theorem proved : Rows.TrainTextsCardSaid := by
  have h6 : Claim7.isSixth { stood := { row := Rows.trainTextsRow, standIns := [], harness := (true, "066878b3494e65e1fc56fe8de7a129f261fa823b8f9f58d739139b8b9bae8629"), looks := false }, kinds := [] } = false := by simp [Claim7.isSixth]
  exact ⟨Claim7.tied_new_at .later [.data, .data, .data] true (Claim7.new_of_sixth said _ _ rfl ⟨rfl, rfl⟩ (by kernel_rfl) h6 plain) (by kernel_rfl), (fun D hD => by cases hD), trainTexts_row_tie, (fun h => by cases h), by kernel_rfl⟩
#print axioms proved
end Go.Proofs.YthamijnggdjaoaaGreatDoor.trainTexts
