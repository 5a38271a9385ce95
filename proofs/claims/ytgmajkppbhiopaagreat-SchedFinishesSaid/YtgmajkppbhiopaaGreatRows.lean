/-
  No cell of these rows narrows 'for every input' (looked for: loops, veiled, ifaces, maps, wideKeys, modest, calm, conditions, laid).
  DERIVED. THE GIVEN ROWS OF THIS SEAT. 8 by the template 'for every input the law returns true; each argument reads behind the call as it read before'; 0 by the template 'total and deterministic' (their statements: YtgmajkppbhiopaaGreatTotals.lean).
  GIVEN WITH THE SEED: the statements are not yours to turn. If you find one false, say at which input.
  Laid BY PROGRAM, IN A SANDBOX (cutbox-rows.mjs): the forced cells as the released guide's own fill.sh prints them over the translation 50fc2ddce20331fe… (all of the seat's roots in one cut). By AI agents, Wed Nov 11 2026. No macro, syntax, notation, axiom, sorry.
-/
import Derived.Test.YtgmajkppbhiopaaGreatChecked
import GoSem.Claim
import GoSem.ClaimJoined
import GoSem.ClaimMapViews
import Derived.JoinedTies
import Derived.KernelRfl
namespace Go.Proofs.YtgmajkppbhiopaaGreat
/- THE CELL 'sum', in the pinned program and in every row, IS THE sha256 OF THE DUMP (.gsa) THAT YtgmajkppbhiopaaGreatProg.lean LOADS. Nothing in Lean hashes anything: it is a label: what it is worth is what the hold of that sum in a sandbox is worth. -/
noncomputable def Tryz.pinned : Pinned := { name := "ytgmajkppbhiopaagreat", sum := "50fc2ddce20331fe98c1393a5cdf2a332cd1b0bd4d0df7afd637537b6adc4019", checked := Tryz.checked }
namespace Rows
def none {H : Type} : Left H := { results := [], args := [] }

/-- 'sakialaw22.SchedMatches': WHATEVER THE INPUT: true; the input reads as it did. -/
def schedMatchesSpec : ChangeSpec := { name := "schedMatches", fn := fun _ => fun
  | [d1, d2] => { results := [.lit (.bool true)], args := [d1, d2] }
  | _ => none }
def schedMatchesRow : OpenClaim := { program := "ytgmajkppbhiopaagreat", sum := "50fc2ddce20331fe98c1393a5cdf2a332cd1b0bd4d0df7afd637537b6adc4019", func := "sakia/sakialaw22.SchedMatches", spec := "schedMatches", unfollowed := true, recurses := true, apart := false }
def SchedMatchesSaid : Prop := schedMatchesRow.holds Tryz.pinned (OpenSpec.ofChange schedMatchesSpec)

/-- ITS FALSE NEIGHBOUR: 'it returns false'. Refute it at one input. -/
def schedMatchesWrong : ChangeSpec := { name := "schedMatches", fn := fun _ => fun
  | [d1, d2] => { results := [.lit (.bool false)], args := [d1, d2] }
  | _ => none }
def SchedMatchesWrongFalsely : Prop := schedMatchesRow.holds Tryz.pinned (OpenSpec.ofChange schedMatchesWrong)

/-- 'sakialaw22.SchedRuns': WHATEVER THE INPUT: true; the input reads as it did. -/
def schedRunsSpec : ChangeSpec := { name := "schedRuns", fn := fun _ => fun
  | [d1, d2] => { results := [.lit (.bool true)], args := [d1, d2] }
  | _ => none }
def schedRunsRow : OpenClaim := { program := "ytgmajkppbhiopaagreat", sum := "50fc2ddce20331fe98c1393a5cdf2a332cd1b0bd4d0df7afd637537b6adc4019", func := "sakia/sakialaw22.SchedRuns", spec := "schedRuns", unfollowed := true, recurses := true, apart := false }
def SchedRunsSaid : Prop := schedRunsRow.holds Tryz.pinned (OpenSpec.ofChange schedRunsSpec)

/-- ITS FALSE NEIGHBOUR: 'it returns false'. Refute it at one input. -/
def schedRunsWrong : ChangeSpec := { name := "schedRuns", fn := fun _ => fun
  | [d1, d2] => { results := [.lit (.bool false)], args := [d1, d2] }
  | _ => none }
def SchedRunsWrongFalsely : Prop := schedRunsRow.holds Tryz.pinned (OpenSpec.ofChange schedRunsWrong)

/-- 'sakialaw22.SchedFinishes': WHATEVER THE INPUT: true; the input reads as it did. -/
def schedFinishesSpec : ChangeSpec := { name := "schedFinishes", fn := fun _ => fun
  | [d1, d2, d3] => { results := [.lit (.bool true)], args := [d1, d2, d3] }
  | _ => none }
def schedFinishesRow : OpenClaim := { program := "ytgmajkppbhiopaagreat", sum := "50fc2ddce20331fe98c1393a5cdf2a332cd1b0bd4d0df7afd637537b6adc4019", func := "sakia/sakialaw22.SchedFinishes", spec := "schedFinishes", unfollowed := true, recurses := true, apart := false }
def SchedFinishesSaid : Prop := schedFinishesRow.holds Tryz.pinned (OpenSpec.ofChange schedFinishesSpec)

/-- ITS FALSE NEIGHBOUR: 'it returns false'. Refute it at one input. -/
def schedFinishesWrong : ChangeSpec := { name := "schedFinishes", fn := fun _ => fun
  | [d1, d2, d3] => { results := [.lit (.bool false)], args := [d1, d2, d3] }
  | _ => none }
def SchedFinishesWrongFalsely : Prop := schedFinishesRow.holds Tryz.pinned (OpenSpec.ofChange schedFinishesWrong)

/-- 'sakialaw22.SchedLives': WHATEVER THE INPUT: true; the input reads as it did. -/
def schedLivesSpec : ChangeSpec := { name := "schedLives", fn := fun _ => fun
  | [d1, d2] => { results := [.lit (.bool true)], args := [d1, d2] }
  | _ => none }
def schedLivesRow : OpenClaim := { program := "ytgmajkppbhiopaagreat", sum := "50fc2ddce20331fe98c1393a5cdf2a332cd1b0bd4d0df7afd637537b6adc4019", func := "sakia/sakialaw22.SchedLives", spec := "schedLives", unfollowed := true, recurses := true, apart := false }
def SchedLivesSaid : Prop := schedLivesRow.holds Tryz.pinned (OpenSpec.ofChange schedLivesSpec)

/-- ITS FALSE NEIGHBOUR: 'it returns false'. Refute it at one input. -/
def schedLivesWrong : ChangeSpec := { name := "schedLives", fn := fun _ => fun
  | [d1, d2] => { results := [.lit (.bool false)], args := [d1, d2] }
  | _ => none }
def SchedLivesWrongFalsely : Prop := schedLivesRow.holds Tryz.pinned (OpenSpec.ofChange schedLivesWrong)

/-- 'sakialaw22.SchedBounds': WHATEVER THE INPUT: true; the input reads as it did. -/
def schedBoundsSpec : ChangeSpec := { name := "schedBounds", fn := fun _ => fun
  | [d1, d2] => { results := [.lit (.bool true)], args := [d1, d2] }
  | _ => none }
def schedBoundsRow : OpenClaim := { program := "ytgmajkppbhiopaagreat", sum := "50fc2ddce20331fe98c1393a5cdf2a332cd1b0bd4d0df7afd637537b6adc4019", func := "sakia/sakialaw22.SchedBounds", spec := "schedBounds", unfollowed := true, recurses := true, apart := false }
def SchedBoundsSaid : Prop := schedBoundsRow.holds Tryz.pinned (OpenSpec.ofChange schedBoundsSpec)

/-- ITS FALSE NEIGHBOUR: 'it returns false'. Refute it at one input. -/
def schedBoundsWrong : ChangeSpec := { name := "schedBounds", fn := fun _ => fun
  | [d1, d2] => { results := [.lit (.bool false)], args := [d1, d2] }
  | _ => none }
def SchedBoundsWrongFalsely : Prop := schedBoundsRow.holds Tryz.pinned (OpenSpec.ofChange schedBoundsWrong)

/-- 'sakialaw22.SchedNil': WHATEVER THE INPUT: true; the input reads as it did. -/
def schedNilSpec : ChangeSpec := { name := "schedNil", fn := fun _ => fun
  | [d1, d2, d3] => { results := [.lit (.bool true)], args := [d1, d2, d3] }
  | _ => none }
def schedNilRow : OpenClaim := { program := "ytgmajkppbhiopaagreat", sum := "50fc2ddce20331fe98c1393a5cdf2a332cd1b0bd4d0df7afd637537b6adc4019", func := "sakia/sakialaw22.SchedNil", spec := "schedNil", unfollowed := true, recurses := true, apart := false }
def SchedNilSaid : Prop := schedNilRow.holds Tryz.pinned (OpenSpec.ofChange schedNilSpec)

/-- ITS FALSE NEIGHBOUR: 'it returns false'. Refute it at one input. -/
def schedNilWrong : ChangeSpec := { name := "schedNil", fn := fun _ => fun
  | [d1, d2, d3] => { results := [.lit (.bool false)], args := [d1, d2, d3] }
  | _ => none }
def SchedNilWrongFalsely : Prop := schedNilRow.holds Tryz.pinned (OpenSpec.ofChange schedNilWrong)

/-- 'sakialaw23.BoundProgress': WHATEVER THE INPUT: true; the input reads as it did. -/
def boundProgressSpec : ChangeSpec := { name := "boundProgress", fn := fun _ => fun
  | [d1, d2] => { results := [.lit (.bool true)], args := [d1, d2] }
  | _ => none }
def boundProgressRow : OpenClaim := { program := "ytgmajkppbhiopaagreat", sum := "50fc2ddce20331fe98c1393a5cdf2a332cd1b0bd4d0df7afd637537b6adc4019", func := "sakia/sakialaw23.BoundProgress", spec := "boundProgress", unfollowed := true, recurses := true, apart := false }
def BoundProgressSaid : Prop := boundProgressRow.holds Tryz.pinned (OpenSpec.ofChange boundProgressSpec)

/-- ITS FALSE NEIGHBOUR: 'it returns false'. Refute it at one input. -/
def boundProgressWrong : ChangeSpec := { name := "boundProgress", fn := fun _ => fun
  | [d1, d2] => { results := [.lit (.bool false)], args := [d1, d2] }
  | _ => none }
def BoundProgressWrongFalsely : Prop := boundProgressRow.holds Tryz.pinned (OpenSpec.ofChange boundProgressWrong)

/-- 'sakialaw23.BoundEnough': WHATEVER THE INPUT: true; the input reads as it did. -/
def boundEnoughSpec : ChangeSpec := { name := "boundEnough", fn := fun _ => fun
  | [d1, d2, d3] => { results := [.lit (.bool true)], args := [d1, d2, d3] }
  | _ => none }
def boundEnoughRow : OpenClaim := { program := "ytgmajkppbhiopaagreat", sum := "50fc2ddce20331fe98c1393a5cdf2a332cd1b0bd4d0df7afd637537b6adc4019", func := "sakia/sakialaw23.BoundEnough", spec := "boundEnough", unfollowed := true, recurses := true, apart := false }
def BoundEnoughSaid : Prop := boundEnoughRow.holds Tryz.pinned (OpenSpec.ofChange boundEnoughSpec)

/-- ITS FALSE NEIGHBOUR: 'it returns false'. Refute it at one input. -/
def boundEnoughWrong : ChangeSpec := { name := "boundEnough", fn := fun _ => fun
  | [d1, d2, d3] => { results := [.lit (.bool false)], args := [d1, d2, d3] }
  | _ => none }
def BoundEnoughWrongFalsely : Prop := boundEnoughRow.holds Tryz.pinned (OpenSpec.ofChange boundEnoughWrong)

/- THE SECOND FORM. 'bulk': how many values and letters a reading holds, each counted each time it is reached (what is shared counts as often as it is met; a slice's spare places count too). A statement '..UptoSaid' is the law's where the arguments, and the package variables that the reading takes, are together of bulk at most 1048576: NARROWER than '..Said'. Prove '..Said' where nothing that the law and all that it calls make is longer than what came in: it says more and counts as full. Else prove '..UptoSaid'. A law counts once. -/
mutual
def uptoBulk {H : Type} : DataW H → Nat
  | .lit (.string bytes) => bytes.length + 1
  | .lit _ => 1
  | .nil => 1
  | .ptr d => uptoBulk d + 1
  | .slice elems spare => uptoBulkAll elems + uptoBulkAll spare + 1
  | .agg parts => uptoBulkAll parts + 1
  | .iface _ d => uptoBulk d + 1
  | .map entries => uptoBulkEntries entries + 1
  | .held _ => 1
def uptoBulkAll {H : Type} : List (DataW H) → Nat
  | [] => 0
  | d :: r => uptoBulk d + uptoBulkAll r
def uptoBulkEntries {H : Type} : List (Lit × DataW H) → Nat
  | [] => 0
  | x :: r => uptoBulkEntry x + uptoBulkEntries r
def uptoBulkEntry {H : Type} : Lit × DataW H → Nat
  | (.string bytes, d) => bytes.length + uptoBulk d + 1
  | (_, d) => uptoBulk d + 1
 end
def uptoSmall : (H : Type) → List (DataW H) → Bool := fun _ ds => decide (uptoBulkAll ds ≤ 1048576)
def OpenSpec.upto (s : _root_.Go.ChangeSpec) : _root_.Go.OpenSpec := { _root_.Go.OpenSpec.ofChange s with cond := some uptoSmall }

/-- 'sakialaw22.SchedMatches', WHERE WHAT IT READS IS OF BULK AT MOST 1048576: true; the input reads as it did. -/
def schedMatchesUptoRow : OpenClaim := { program := "ytgmajkppbhiopaagreat", sum := "50fc2ddce20331fe98c1393a5cdf2a332cd1b0bd4d0df7afd637537b6adc4019", func := "sakia/sakialaw22.SchedMatches", spec := "schedMatches", unfollowed := true, recurses := true, apart := false, narrowed := true }
def SchedMatchesUptoSaid : Prop := schedMatchesUptoRow.holds Tryz.pinned (OpenSpec.upto schedMatchesSpec)

/-- 'sakialaw22.SchedRuns', WHERE WHAT IT READS IS OF BULK AT MOST 1048576: true; the input reads as it did. -/
def schedRunsUptoRow : OpenClaim := { program := "ytgmajkppbhiopaagreat", sum := "50fc2ddce20331fe98c1393a5cdf2a332cd1b0bd4d0df7afd637537b6adc4019", func := "sakia/sakialaw22.SchedRuns", spec := "schedRuns", unfollowed := true, recurses := true, apart := false, narrowed := true }
def SchedRunsUptoSaid : Prop := schedRunsUptoRow.holds Tryz.pinned (OpenSpec.upto schedRunsSpec)

/-- 'sakialaw22.SchedFinishes', WHERE WHAT IT READS IS OF BULK AT MOST 1048576: true; the input reads as it did. -/
def schedFinishesUptoRow : OpenClaim := { program := "ytgmajkppbhiopaagreat", sum := "50fc2ddce20331fe98c1393a5cdf2a332cd1b0bd4d0df7afd637537b6adc4019", func := "sakia/sakialaw22.SchedFinishes", spec := "schedFinishes", unfollowed := true, recurses := true, apart := false, narrowed := true }
def SchedFinishesUptoSaid : Prop := schedFinishesUptoRow.holds Tryz.pinned (OpenSpec.upto schedFinishesSpec)

/-- 'sakialaw22.SchedLives', WHERE WHAT IT READS IS OF BULK AT MOST 1048576: true; the input reads as it did. -/
def schedLivesUptoRow : OpenClaim := { program := "ytgmajkppbhiopaagreat", sum := "50fc2ddce20331fe98c1393a5cdf2a332cd1b0bd4d0df7afd637537b6adc4019", func := "sakia/sakialaw22.SchedLives", spec := "schedLives", unfollowed := true, recurses := true, apart := false, narrowed := true }
def SchedLivesUptoSaid : Prop := schedLivesUptoRow.holds Tryz.pinned (OpenSpec.upto schedLivesSpec)

/-- 'sakialaw22.SchedBounds', WHERE WHAT IT READS IS OF BULK AT MOST 1048576: true; the input reads as it did. -/
def schedBoundsUptoRow : OpenClaim := { program := "ytgmajkppbhiopaagreat", sum := "50fc2ddce20331fe98c1393a5cdf2a332cd1b0bd4d0df7afd637537b6adc4019", func := "sakia/sakialaw22.SchedBounds", spec := "schedBounds", unfollowed := true, recurses := true, apart := false, narrowed := true }
def SchedBoundsUptoSaid : Prop := schedBoundsUptoRow.holds Tryz.pinned (OpenSpec.upto schedBoundsSpec)

/-- 'sakialaw22.SchedNil', WHERE WHAT IT READS IS OF BULK AT MOST 1048576: true; the input reads as it did. -/
def schedNilUptoRow : OpenClaim := { program := "ytgmajkppbhiopaagreat", sum := "50fc2ddce20331fe98c1393a5cdf2a332cd1b0bd4d0df7afd637537b6adc4019", func := "sakia/sakialaw22.SchedNil", spec := "schedNil", unfollowed := true, recurses := true, apart := false, narrowed := true }
def SchedNilUptoSaid : Prop := schedNilUptoRow.holds Tryz.pinned (OpenSpec.upto schedNilSpec)

/-- 'sakialaw23.BoundProgress', WHERE WHAT IT READS IS OF BULK AT MOST 1048576: true; the input reads as it did. -/
def boundProgressUptoRow : OpenClaim := { program := "ytgmajkppbhiopaagreat", sum := "50fc2ddce20331fe98c1393a5cdf2a332cd1b0bd4d0df7afd637537b6adc4019", func := "sakia/sakialaw23.BoundProgress", spec := "boundProgress", unfollowed := true, recurses := true, apart := false, narrowed := true }
def BoundProgressUptoSaid : Prop := boundProgressUptoRow.holds Tryz.pinned (OpenSpec.upto boundProgressSpec)

/-- 'sakialaw23.BoundEnough', WHERE WHAT IT READS IS OF BULK AT MOST 1048576: true; the input reads as it did. -/
def boundEnoughUptoRow : OpenClaim := { program := "ytgmajkppbhiopaagreat", sum := "50fc2ddce20331fe98c1393a5cdf2a332cd1b0bd4d0df7afd637537b6adc4019", func := "sakia/sakialaw23.BoundEnough", spec := "boundEnough", unfollowed := true, recurses := true, apart := false, narrowed := true }
def BoundEnoughUptoSaid : Prop := boundEnoughUptoRow.holds Tryz.pinned (OpenSpec.upto boundEnoughSpec)

end Rows
end Go.Proofs.YtgmajkppbhiopaaGreat
