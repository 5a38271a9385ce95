/-
  No cell of these rows narrows 'for every input' (looked for: loops, veiled, ifaces, maps, wideKeys, modest, calm, conditions, laid).
  DERIVED. THE GIVEN ROWS OF THIS SEAT. 6 by the template 'for every input the law returns true; each argument reads behind the call as it read before'; 0 by the template 'total and deterministic' (their statements: YtfiojofcafjfeaaGreatTotals.lean).
  GIVEN WITH THE SEED: the statements are not yours to turn. If you find one false, say at which input.
  Laid BY PROGRAM, IN A SANDBOX (cutbox-rows.mjs): the forced cells as the released guide's own fill.sh prints them over the translation 3725d2cab453ac48… (all of the seat's roots in one cut). By AI agents, Wed Nov 11 2026. No macro, syntax, notation, axiom, sorry.
-/
import Derived.Test.YtfiojofcafjfeaaGreatChecked
import GoSem.Claim
import GoSem.ClaimJoined
import GoSem.ClaimMapViews
import Derived.JoinedTies
import Derived.KernelRfl
namespace Go.Proofs.YtfiojofcafjfeaaGreat
/- THE CELL 'sum', in the pinned program and in every row, IS THE sha256 OF THE DUMP (.gsa) THAT YtfiojofcafjfeaaGreatProg.lean LOADS. Nothing in Lean hashes anything: it is a label: what it is worth is what the hold of that sum in a sandbox is worth. -/
noncomputable def Tryz.pinned : Pinned := { name := "ytfiojofcafjfeaagreat", sum := "3725d2cab453ac4873f4855f1027fee8a9dc175f256bbb2092caa11ce79585eb", checked := Tryz.checked }
namespace Rows
def none {H : Type} : Left H := { results := [], args := [] }

/-- 'sakialaw14.SerialTrains': WHATEVER THE INPUT: true; the input reads as it did. -/
def serialTrainsSpec : ChangeSpec := { name := "serialTrains", fn := fun _ => fun
  | [d] => { results := [.lit (.bool true)], args := [d] }
  | _ => none }
def serialTrainsRow : OpenClaim := { program := "ytfiojofcafjfeaagreat", sum := "3725d2cab453ac4873f4855f1027fee8a9dc175f256bbb2092caa11ce79585eb", func := "sakia/sakialaw14.SerialTrains", spec := "serialTrains", unfollowed := true, recurses := true, apart := false }
def SerialTrainsSaid : Prop := serialTrainsRow.holds Tryz.pinned (OpenSpec.ofChange serialTrainsSpec)

/-- ITS FALSE NEIGHBOUR: 'it returns false'. Refute it at one input. -/
def serialTrainsWrong : ChangeSpec := { name := "serialTrains", fn := fun _ => fun
  | [d] => { results := [.lit (.bool false)], args := [d] }
  | _ => none }
def SerialTrainsWrongFalsely : Prop := serialTrainsRow.holds Tryz.pinned (OpenSpec.ofChange serialTrainsWrong)

/-- 'sakialaw14.SerialAlone': WHATEVER THE INPUT: true; the input reads as it did. -/
def serialAloneSpec : ChangeSpec := { name := "serialAlone", fn := fun _ => fun
  | [d1, d2] => { results := [.lit (.bool true)], args := [d1, d2] }
  | _ => none }
def serialAloneRow : OpenClaim := { program := "ytfiojofcafjfeaagreat", sum := "3725d2cab453ac4873f4855f1027fee8a9dc175f256bbb2092caa11ce79585eb", func := "sakia/sakialaw14.SerialAlone", spec := "serialAlone", unfollowed := true, recurses := true, apart := false }
def SerialAloneSaid : Prop := serialAloneRow.holds Tryz.pinned (OpenSpec.ofChange serialAloneSpec)

/-- ITS FALSE NEIGHBOUR: 'it returns false'. Refute it at one input. -/
def serialAloneWrong : ChangeSpec := { name := "serialAlone", fn := fun _ => fun
  | [d1, d2] => { results := [.lit (.bool false)], args := [d1, d2] }
  | _ => none }
def SerialAloneWrongFalsely : Prop := serialAloneRow.holds Tryz.pinned (OpenSpec.ofChange serialAloneWrong)

/-- 'sakialaw14.SerialParts': WHATEVER THE INPUT: true; the input reads as it did. -/
def serialPartsSpec : ChangeSpec := { name := "serialParts", fn := fun _ => fun
  | [d1, d2, d3] => { results := [.lit (.bool true)], args := [d1, d2, d3] }
  | _ => none }
def serialPartsRow : OpenClaim := { program := "ytfiojofcafjfeaagreat", sum := "3725d2cab453ac4873f4855f1027fee8a9dc175f256bbb2092caa11ce79585eb", func := "sakia/sakialaw14.SerialParts", spec := "serialParts", unfollowed := true, recurses := true, apart := false }
def SerialPartsSaid : Prop := serialPartsRow.holds Tryz.pinned (OpenSpec.ofChange serialPartsSpec)

/-- ITS FALSE NEIGHBOUR: 'it returns false'. Refute it at one input. -/
def serialPartsWrong : ChangeSpec := { name := "serialParts", fn := fun _ => fun
  | [d1, d2, d3] => { results := [.lit (.bool false)], args := [d1, d2, d3] }
  | _ => none }
def SerialPartsWrongFalsely : Prop := serialPartsRow.holds Tryz.pinned (OpenSpec.ofChange serialPartsWrong)

/-- 'sakialaw14.SerialSteps': WHATEVER THE INPUT: true; the input reads as it did. -/
def serialStepsSpec : ChangeSpec := { name := "serialSteps", fn := fun _ => fun
  | [d1, d2] => { results := [.lit (.bool true)], args := [d1, d2] }
  | _ => none }
def serialStepsRow : OpenClaim := { program := "ytfiojofcafjfeaagreat", sum := "3725d2cab453ac4873f4855f1027fee8a9dc175f256bbb2092caa11ce79585eb", func := "sakia/sakialaw14.SerialSteps", spec := "serialSteps", unfollowed := true, recurses := true, apart := false }
def SerialStepsSaid : Prop := serialStepsRow.holds Tryz.pinned (OpenSpec.ofChange serialStepsSpec)

/-- ITS FALSE NEIGHBOUR: 'it returns false'. Refute it at one input. -/
def serialStepsWrong : ChangeSpec := { name := "serialSteps", fn := fun _ => fun
  | [d1, d2] => { results := [.lit (.bool false)], args := [d1, d2] }
  | _ => none }
def SerialStepsWrongFalsely : Prop := serialStepsRow.holds Tryz.pinned (OpenSpec.ofChange serialStepsWrong)

/-- 'sakialaw14.SerialGradients': WHATEVER THE INPUT: true; the input reads as it did. -/
def serialGradientsSpec : ChangeSpec := { name := "serialGradients", fn := fun _ => fun
  | [d1, d2] => { results := [.lit (.bool true)], args := [d1, d2] }
  | _ => none }
def serialGradientsRow : OpenClaim := { program := "ytfiojofcafjfeaagreat", sum := "3725d2cab453ac4873f4855f1027fee8a9dc175f256bbb2092caa11ce79585eb", func := "sakia/sakialaw14.SerialGradients", spec := "serialGradients", unfollowed := true, recurses := true, apart := false }
def SerialGradientsSaid : Prop := serialGradientsRow.holds Tryz.pinned (OpenSpec.ofChange serialGradientsSpec)

/-- ITS FALSE NEIGHBOUR: 'it returns false'. Refute it at one input. -/
def serialGradientsWrong : ChangeSpec := { name := "serialGradients", fn := fun _ => fun
  | [d1, d2] => { results := [.lit (.bool false)], args := [d1, d2] }
  | _ => none }
def SerialGradientsWrongFalsely : Prop := serialGradientsRow.holds Tryz.pinned (OpenSpec.ofChange serialGradientsWrong)

/-- 'sakialaw14.SerialNil': WHATEVER THE INPUT: true; the input reads as it did. -/
def serialNilSpec : ChangeSpec := { name := "serialNil", fn := fun _ => fun
  | [d] => { results := [.lit (.bool true)], args := [d] }
  | _ => none }
def serialNilRow : OpenClaim := { program := "ytfiojofcafjfeaagreat", sum := "3725d2cab453ac4873f4855f1027fee8a9dc175f256bbb2092caa11ce79585eb", func := "sakia/sakialaw14.SerialNil", spec := "serialNil", unfollowed := true, recurses := true, apart := false }
def SerialNilSaid : Prop := serialNilRow.holds Tryz.pinned (OpenSpec.ofChange serialNilSpec)

/-- ITS FALSE NEIGHBOUR: 'it returns false'. Refute it at one input. -/
def serialNilWrong : ChangeSpec := { name := "serialNil", fn := fun _ => fun
  | [d] => { results := [.lit (.bool false)], args := [d] }
  | _ => none }
def SerialNilWrongFalsely : Prop := serialNilRow.holds Tryz.pinned (OpenSpec.ofChange serialNilWrong)

/- THE SECOND FORM. 'bulk': how many values and letters a reading holds, each counted each time it is reached (what is shared counts as often as it is met; a slice's spare places count too). A statement '..UptoSaid' is the law's where the arguments, and the package variables that the reading takes, are together of bulk at most 1048576: NARROWER than '..Said'. Prove '..Said' where nothing that the law and all that it calls make is longer than what came in: it says more and counts as full. Else prove '..UptoSaid'. A law counts once. -/
mutual
def uptoBulk {H : Type} : DataW H → Nat
  | .lit (.string bytes) => bytes.length + 1
  | .lit _ => 1
  | .nil => 1
  | .ptr d => uptoBulk d + 1
  | .slice elems spare => uptoBulkAll elems + uptoBulkAll spare + 1
  | .agg parts => uptoBulkAll parts + 1
  | .iface _ d => uptoBulk d + 1
  | .map entries => uptoBulkEntries entries + 1
  | .held _ => 1
def uptoBulkAll {H : Type} : List (DataW H) → Nat
  | [] => 0
  | d :: r => uptoBulk d + uptoBulkAll r
def uptoBulkEntries {H : Type} : List (Lit × DataW H) → Nat
  | [] => 0
  | x :: r => uptoBulkEntry x + uptoBulkEntries r
def uptoBulkEntry {H : Type} : Lit × DataW H → Nat
  | (.string bytes, d) => bytes.length + uptoBulk d + 1
  | (_, d) => uptoBulk d + 1
 end
def uptoSmall : (H : Type) → List (DataW H) → Bool := fun _ ds => decide (uptoBulkAll ds ≤ 1048576)
def OpenSpec.upto (s : _root_.Go.ChangeSpec) : _root_.Go.OpenSpec := { _root_.Go.OpenSpec.ofChange s with cond := some uptoSmall }

/-- 'sakialaw14.SerialTrains', WHERE WHAT IT READS IS OF BULK AT MOST 1048576: true; the input reads as it did. -/
def serialTrainsUptoRow : OpenClaim := { program := "ytfiojofcafjfeaagreat", sum := "3725d2cab453ac4873f4855f1027fee8a9dc175f256bbb2092caa11ce79585eb", func := "sakia/sakialaw14.SerialTrains", spec := "serialTrains", unfollowed := true, recurses := true, apart := false, narrowed := true }
def SerialTrainsUptoSaid : Prop := serialTrainsUptoRow.holds Tryz.pinned (OpenSpec.upto serialTrainsSpec)

/-- 'sakialaw14.SerialAlone', WHERE WHAT IT READS IS OF BULK AT MOST 1048576: true; the input reads as it did. -/
def serialAloneUptoRow : OpenClaim := { program := "ytfiojofcafjfeaagreat", sum := "3725d2cab453ac4873f4855f1027fee8a9dc175f256bbb2092caa11ce79585eb", func := "sakia/sakialaw14.SerialAlone", spec := "serialAlone", unfollowed := true, recurses := true, apart := false, narrowed := true }
def SerialAloneUptoSaid : Prop := serialAloneUptoRow.holds Tryz.pinned (OpenSpec.upto serialAloneSpec)

/-- 'sakialaw14.SerialParts', WHERE WHAT IT READS IS OF BULK AT MOST 1048576: true; the input reads as it did. -/
def serialPartsUptoRow : OpenClaim := { program := "ytfiojofcafjfeaagreat", sum := "3725d2cab453ac4873f4855f1027fee8a9dc175f256bbb2092caa11ce79585eb", func := "sakia/sakialaw14.SerialParts", spec := "serialParts", unfollowed := true, recurses := true, apart := false, narrowed := true }
def SerialPartsUptoSaid : Prop := serialPartsUptoRow.holds Tryz.pinned (OpenSpec.upto serialPartsSpec)

/-- 'sakialaw14.SerialSteps', WHERE WHAT IT READS IS OF BULK AT MOST 1048576: true; the input reads as it did. -/
def serialStepsUptoRow : OpenClaim := { program := "ytfiojofcafjfeaagreat", sum := "3725d2cab453ac4873f4855f1027fee8a9dc175f256bbb2092caa11ce79585eb", func := "sakia/sakialaw14.SerialSteps", spec := "serialSteps", unfollowed := true, recurses := true, apart := false, narrowed := true }
def SerialStepsUptoSaid : Prop := serialStepsUptoRow.holds Tryz.pinned (OpenSpec.upto serialStepsSpec)

/-- 'sakialaw14.SerialGradients', WHERE WHAT IT READS IS OF BULK AT MOST 1048576: true; the input reads as it did. -/
def serialGradientsUptoRow : OpenClaim := { program := "ytfiojofcafjfeaagreat", sum := "3725d2cab453ac4873f4855f1027fee8a9dc175f256bbb2092caa11ce79585eb", func := "sakia/sakialaw14.SerialGradients", spec := "serialGradients", unfollowed := true, recurses := true, apart := false, narrowed := true }
def SerialGradientsUptoSaid : Prop := serialGradientsUptoRow.holds Tryz.pinned (OpenSpec.upto serialGradientsSpec)

/-- 'sakialaw14.SerialNil', WHERE WHAT IT READS IS OF BULK AT MOST 1048576: true; the input reads as it did. -/
def serialNilUptoRow : OpenClaim := { program := "ytfiojofcafjfeaagreat", sum := "3725d2cab453ac4873f4855f1027fee8a9dc175f256bbb2092caa11ce79585eb", func := "sakia/sakialaw14.SerialNil", spec := "serialNil", unfollowed := true, recurses := true, apart := false, narrowed := true }
def SerialNilUptoSaid : Prop := serialNilUptoRow.holds Tryz.pinned (OpenSpec.upto serialNilSpec)

end Rows
end Go.Proofs.YtfiojofcafjfeaaGreat
