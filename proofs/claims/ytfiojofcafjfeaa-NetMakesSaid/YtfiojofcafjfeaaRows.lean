/-
  No cell of these rows narrows 'for every input' (looked for: loops, veiled, ifaces, maps, wideKeys, modest, calm, conditions, laid).
  DERIVED. THE GIVEN ROWS OF THIS SEAT. 6 by the template 'for every input the law returns true; each argument reads behind the call as it read before'; 0 by the template 'total and deterministic' (their statements: YtfiojofcafjfeaaTotals.lean).
  GIVEN WITH THE SEED: the statements are not yours to turn. If you find one false, say at which input.
  Laid BY PROGRAM, IN A SANDBOX (cutbox-rows.mjs): the forced cells as the released guide's own fill.sh prints them over the translation ec8e9689b8b733d6… (all of the seat's roots in one cut). By AI agents, Wed Nov 11 2026. No macro, syntax, notation, axiom, sorry.
-/
import Derived.Test.YtfiojofcafjfeaaChecked
import GoSem.Claim
import GoSem.ClaimJoined
import GoSem.ClaimMapViews
import Derived.JoinedTies
import Derived.KernelRfl
namespace Go.Proofs.Ytfiojofcafjfeaa
/- THE CELL 'sum', in the pinned program and in every row, IS THE sha256 OF THE DUMP (.gsa) THAT YtfiojofcafjfeaaProg.lean LOADS. Nothing in Lean hashes anything: it is a label: what it is worth is what the hold of that sum in a sandbox is worth. -/
noncomputable def Try.pinned : Pinned := { name := "ytfiojofcafjfeaa", sum := "ec8e9689b8b733d6c44e897dbfd35edf1af3036ecd66f7be52baf6028488b86d", checked := Try.checked }
namespace Rows
def none {H : Type} : Left H := { results := [], args := [] }

/-- 'sakialaw09.NetGradients': WHATEVER THE INPUT: true; the input reads as it did. -/
def netGradientsSpec : ChangeSpec := { name := "netGradients", fn := fun _ => fun
  | [d1, d2, d3] => { results := [.lit (.bool true)], args := [d1, d2, d3] }
  | _ => none }
def netGradientsRow : OpenClaim := { program := "ytfiojofcafjfeaa", sum := "ec8e9689b8b733d6c44e897dbfd35edf1af3036ecd66f7be52baf6028488b86d", func := "sakia/sakialaw09.NetGradients", spec := "netGradients", unfollowed := true, recurses := true, apart := false }
def NetGradientsSaid : Prop := netGradientsRow.holds Try.pinned (OpenSpec.ofChange netGradientsSpec)

/-- ITS FALSE NEIGHBOUR: 'it returns false'. Refute it at one input. -/
def netGradientsWrong : ChangeSpec := { name := "netGradients", fn := fun _ => fun
  | [d1, d2, d3] => { results := [.lit (.bool false)], args := [d1, d2, d3] }
  | _ => none }
def NetGradientsWrongFalsely : Prop := netGradientsRow.holds Try.pinned (OpenSpec.ofChange netGradientsWrong)

/-- 'sakialaw09.NetMakes': WHATEVER THE INPUT: true; the input reads as it did. -/
def netMakesSpec : ChangeSpec := { name := "netMakes", fn := fun _ => fun
  | [d] => { results := [.lit (.bool true)], args := [d] }
  | _ => none }
def netMakesRow : OpenClaim := { program := "ytfiojofcafjfeaa", sum := "ec8e9689b8b733d6c44e897dbfd35edf1af3036ecd66f7be52baf6028488b86d", func := "sakia/sakialaw09.NetMakes", spec := "netMakes", unfollowed := true, recurses := true, apart := false }
def NetMakesSaid : Prop := netMakesRow.holds Try.pinned (OpenSpec.ofChange netMakesSpec)

/-- ITS FALSE NEIGHBOUR: 'it returns false'. Refute it at one input. -/
def netMakesWrong : ChangeSpec := { name := "netMakes", fn := fun _ => fun
  | [d] => { results := [.lit (.bool false)], args := [d] }
  | _ => none }
def NetMakesWrongFalsely : Prop := netMakesRow.holds Try.pinned (OpenSpec.ofChange netMakesWrong)

/-- 'sakialaw09.NetTraces': WHATEVER THE INPUT: true; the input reads as it did. -/
def netTracesSpec : ChangeSpec := { name := "netTraces", fn := fun _ => fun
  | [d1, d2] => { results := [.lit (.bool true)], args := [d1, d2] }
  | _ => none }
def netTracesRow : OpenClaim := { program := "ytfiojofcafjfeaa", sum := "ec8e9689b8b733d6c44e897dbfd35edf1af3036ecd66f7be52baf6028488b86d", func := "sakia/sakialaw09.NetTraces", spec := "netTraces", unfollowed := true, recurses := true, apart := false }
def NetTracesSaid : Prop := netTracesRow.holds Try.pinned (OpenSpec.ofChange netTracesSpec)

/-- ITS FALSE NEIGHBOUR: 'it returns false'. Refute it at one input. -/
def netTracesWrong : ChangeSpec := { name := "netTraces", fn := fun _ => fun
  | [d1, d2] => { results := [.lit (.bool false)], args := [d1, d2] }
  | _ => none }
def NetTracesWrongFalsely : Prop := netTracesRow.holds Try.pinned (OpenSpec.ofChange netTracesWrong)

/-- 'sakialaw09.NetLosses': WHATEVER THE INPUT: true; the input reads as it did. -/
def netLossesSpec : ChangeSpec := { name := "netLosses", fn := fun _ => fun
  | [d1, d2, d3] => { results := [.lit (.bool true)], args := [d1, d2, d3] }
  | _ => none }
def netLossesRow : OpenClaim := { program := "ytfiojofcafjfeaa", sum := "ec8e9689b8b733d6c44e897dbfd35edf1af3036ecd66f7be52baf6028488b86d", func := "sakia/sakialaw09.NetLosses", spec := "netLosses", unfollowed := true, recurses := true, apart := false }
def NetLossesSaid : Prop := netLossesRow.holds Try.pinned (OpenSpec.ofChange netLossesSpec)

/-- ITS FALSE NEIGHBOUR: 'it returns false'. Refute it at one input. -/
def netLossesWrong : ChangeSpec := { name := "netLosses", fn := fun _ => fun
  | [d1, d2, d3] => { results := [.lit (.bool false)], args := [d1, d2, d3] }
  | _ => none }
def NetLossesWrongFalsely : Prop := netLossesRow.holds Try.pinned (OpenSpec.ofChange netLossesWrong)

/-- 'sakialaw09.NetPerfect': WHATEVER THE INPUT: true; the input reads as it did. -/
def netPerfectSpec : ChangeSpec := { name := "netPerfect", fn := fun _ => fun
  | [d1, d2] => { results := [.lit (.bool true)], args := [d1, d2] }
  | _ => none }
def netPerfectRow : OpenClaim := { program := "ytfiojofcafjfeaa", sum := "ec8e9689b8b733d6c44e897dbfd35edf1af3036ecd66f7be52baf6028488b86d", func := "sakia/sakialaw09.NetPerfect", spec := "netPerfect", unfollowed := true, recurses := true, apart := false }
def NetPerfectSaid : Prop := netPerfectRow.holds Try.pinned (OpenSpec.ofChange netPerfectSpec)

/-- ITS FALSE NEIGHBOUR: 'it returns false'. Refute it at one input. -/
def netPerfectWrong : ChangeSpec := { name := "netPerfect", fn := fun _ => fun
  | [d1, d2] => { results := [.lit (.bool false)], args := [d1, d2] }
  | _ => none }
def NetPerfectWrongFalsely : Prop := netPerfectRow.holds Try.pinned (OpenSpec.ofChange netPerfectWrong)

/-- 'sakialaw09.NetBiases': WHATEVER THE INPUT: true; the input reads as it did. -/
def netBiasesSpec : ChangeSpec := { name := "netBiases", fn := fun _ => fun
  | [d1, d2, d3] => { results := [.lit (.bool true)], args := [d1, d2, d3] }
  | _ => none }
def netBiasesRow : OpenClaim := { program := "ytfiojofcafjfeaa", sum := "ec8e9689b8b733d6c44e897dbfd35edf1af3036ecd66f7be52baf6028488b86d", func := "sakia/sakialaw09.NetBiases", spec := "netBiases", unfollowed := true, recurses := true, apart := false }
def NetBiasesSaid : Prop := netBiasesRow.holds Try.pinned (OpenSpec.ofChange netBiasesSpec)

/-- ITS FALSE NEIGHBOUR: 'it returns false'. Refute it at one input. -/
def netBiasesWrong : ChangeSpec := { name := "netBiases", fn := fun _ => fun
  | [d1, d2, d3] => { results := [.lit (.bool false)], args := [d1, d2, d3] }
  | _ => none }
def NetBiasesWrongFalsely : Prop := netBiasesRow.holds Try.pinned (OpenSpec.ofChange netBiasesWrong)

/- THE SECOND FORM. 'bulk': how many values and letters a reading holds, each counted each time it is reached (what is shared counts as often as it is met; a slice's spare places count too). A statement '..UptoSaid' is the law's where the arguments, and the package variables that the reading takes, are together of bulk at most 1048576: NARROWER than '..Said'. Prove '..Said' where nothing that the law and all that it calls make is longer than what came in: it says more and counts as full. Else prove '..UptoSaid'. A law counts once. -/
mutual
def uptoBulk {H : Type} : DataW H → Nat
  | .lit (.string bytes) => bytes.length + 1
  | .lit _ => 1
  | .nil => 1
  | .ptr d => uptoBulk d + 1
  | .slice elems spare => uptoBulkAll elems + uptoBulkAll spare + 1
  | .agg parts => uptoBulkAll parts + 1
  | .iface _ d => uptoBulk d + 1
  | .map entries => uptoBulkEntries entries + 1
  | .held _ => 1
def uptoBulkAll {H : Type} : List (DataW H) → Nat
  | [] => 0
  | d :: r => uptoBulk d + uptoBulkAll r
def uptoBulkEntries {H : Type} : List (Lit × DataW H) → Nat
  | [] => 0
  | x :: r => uptoBulkEntry x + uptoBulkEntries r
def uptoBulkEntry {H : Type} : Lit × DataW H → Nat
  | (.string bytes, d) => bytes.length + uptoBulk d + 1
  | (_, d) => uptoBulk d + 1
 end
def uptoSmall : (H : Type) → List (DataW H) → Bool := fun _ ds => decide (uptoBulkAll ds ≤ 1048576)
def OpenSpec.upto (s : _root_.Go.ChangeSpec) : _root_.Go.OpenSpec := { _root_.Go.OpenSpec.ofChange s with cond := some uptoSmall }

/-- 'sakialaw09.NetGradients', WHERE WHAT IT READS IS OF BULK AT MOST 1048576: true; the input reads as it did. -/
def netGradientsUptoRow : OpenClaim := { program := "ytfiojofcafjfeaa", sum := "ec8e9689b8b733d6c44e897dbfd35edf1af3036ecd66f7be52baf6028488b86d", func := "sakia/sakialaw09.NetGradients", spec := "netGradients", unfollowed := true, recurses := true, apart := false, narrowed := true }
def NetGradientsUptoSaid : Prop := netGradientsUptoRow.holds Try.pinned (OpenSpec.upto netGradientsSpec)

/-- 'sakialaw09.NetMakes', WHERE WHAT IT READS IS OF BULK AT MOST 1048576: true; the input reads as it did. -/
def netMakesUptoRow : OpenClaim := { program := "ytfiojofcafjfeaa", sum := "ec8e9689b8b733d6c44e897dbfd35edf1af3036ecd66f7be52baf6028488b86d", func := "sakia/sakialaw09.NetMakes", spec := "netMakes", unfollowed := true, recurses := true, apart := false, narrowed := true }
def NetMakesUptoSaid : Prop := netMakesUptoRow.holds Try.pinned (OpenSpec.upto netMakesSpec)

/-- 'sakialaw09.NetTraces', WHERE WHAT IT READS IS OF BULK AT MOST 1048576: true; the input reads as it did. -/
def netTracesUptoRow : OpenClaim := { program := "ytfiojofcafjfeaa", sum := "ec8e9689b8b733d6c44e897dbfd35edf1af3036ecd66f7be52baf6028488b86d", func := "sakia/sakialaw09.NetTraces", spec := "netTraces", unfollowed := true, recurses := true, apart := false, narrowed := true }
def NetTracesUptoSaid : Prop := netTracesUptoRow.holds Try.pinned (OpenSpec.upto netTracesSpec)

/-- 'sakialaw09.NetLosses', WHERE WHAT IT READS IS OF BULK AT MOST 1048576: true; the input reads as it did. -/
def netLossesUptoRow : OpenClaim := { program := "ytfiojofcafjfeaa", sum := "ec8e9689b8b733d6c44e897dbfd35edf1af3036ecd66f7be52baf6028488b86d", func := "sakia/sakialaw09.NetLosses", spec := "netLosses", unfollowed := true, recurses := true, apart := false, narrowed := true }
def NetLossesUptoSaid : Prop := netLossesUptoRow.holds Try.pinned (OpenSpec.upto netLossesSpec)

/-- 'sakialaw09.NetPerfect', WHERE WHAT IT READS IS OF BULK AT MOST 1048576: true; the input reads as it did. -/
def netPerfectUptoRow : OpenClaim := { program := "ytfiojofcafjfeaa", sum := "ec8e9689b8b733d6c44e897dbfd35edf1af3036ecd66f7be52baf6028488b86d", func := "sakia/sakialaw09.NetPerfect", spec := "netPerfect", unfollowed := true, recurses := true, apart := false, narrowed := true }
def NetPerfectUptoSaid : Prop := netPerfectUptoRow.holds Try.pinned (OpenSpec.upto netPerfectSpec)

/-- 'sakialaw09.NetBiases', WHERE WHAT IT READS IS OF BULK AT MOST 1048576: true; the input reads as it did. -/
def netBiasesUptoRow : OpenClaim := { program := "ytfiojofcafjfeaa", sum := "ec8e9689b8b733d6c44e897dbfd35edf1af3036ecd66f7be52baf6028488b86d", func := "sakia/sakialaw09.NetBiases", spec := "netBiases", unfollowed := true, recurses := true, apart := false, narrowed := true }
def NetBiasesUptoSaid : Prop := netBiasesUptoRow.holds Try.pinned (OpenSpec.upto netBiasesSpec)

end Rows
end Go.Proofs.Ytfiojofcafjfeaa
