/-
  No cell of these rows narrows 'for every input' (looked for: loops, veiled, ifaces, maps, wideKeys, modest, calm, conditions, laid).
  DERIVED. THE GIVEN ROWS OF THIS SEAT. 4 by the template 'for every input the law returns true; each argument reads behind the call as it read before'; 0 by the template 'total and deterministic' (their statements: YtindmkcnjlgomaaGreatTotals.lean).
  GIVEN WITH THE SEED: the statements are not yours to turn. If you find one false, say at which input.
  Laid BY PROGRAM, IN A SANDBOX (cutbox-rows.mjs): the forced cells as the released guide's own fill.sh prints them over the translation 1f5addb412c5a2ba… (all of the seat's roots in one cut). By AI agents, Wed Nov 11 2026. No macro, syntax, notation, axiom, sorry.
-/
import Derived.Test.YtindmkcnjlgomaaGreatChecked
import GoSem.Claim
import GoSem.ClaimJoined
import GoSem.ClaimMapViews
import Derived.JoinedTies
import Derived.KernelRfl
namespace Go.Proofs.YtindmkcnjlgomaaGreat
/- THE CELL 'sum', in the pinned program and in every row, IS THE sha256 OF THE DUMP (.gsa) THAT YtindmkcnjlgomaaGreatProg.lean LOADS. Nothing in Lean hashes anything: it is a label: what it is worth is what the hold of that sum in a sandbox is worth. -/
noncomputable def Tryz.pinned : Pinned := { name := "ytindmkcnjlgomaagreat", sum := "1f5addb412c5a2ba4544306ebc411c9d31246d45e38244084159000225db7902", checked := Tryz.checked }
namespace Rows
def none {H : Type} : Left H := { results := [], args := [] }

/-- 'sakiatop.TopFair': WHATEVER THE INPUT: true; the input reads as it did. -/
def topFairSpec : ChangeSpec := { name := "topFair", fn := fun _ => fun
  | [d1, d2] => { results := [.lit (.bool true)], args := [d1, d2] }
  | _ => none }
def topFairRow : OpenClaim := { program := "ytindmkcnjlgomaagreat", sum := "1f5addb412c5a2ba4544306ebc411c9d31246d45e38244084159000225db7902", func := "sakia/sakiatop.TopFair", spec := "topFair", unfollowed := true, recurses := true, apart := false }
def TopFairSaid : Prop := topFairRow.holds Tryz.pinned (OpenSpec.ofChange topFairSpec)

/-- ITS FALSE NEIGHBOUR: 'it returns false'. Refute it at one input. -/
def topFairWrong : ChangeSpec := { name := "topFair", fn := fun _ => fun
  | [d1, d2] => { results := [.lit (.bool false)], args := [d1, d2] }
  | _ => none }
def TopFairWrongFalsely : Prop := topFairRow.holds Tryz.pinned (OpenSpec.ofChange topFairWrong)

/-- 'sakiatop.TopWindows': WHATEVER THE INPUT: true; the input reads as it did. -/
def topWindowsSpec : ChangeSpec := { name := "topWindows", fn := fun _ => fun
  | [d1, d2] => { results := [.lit (.bool true)], args := [d1, d2] }
  | _ => none }
def topWindowsRow : OpenClaim := { program := "ytindmkcnjlgomaagreat", sum := "1f5addb412c5a2ba4544306ebc411c9d31246d45e38244084159000225db7902", func := "sakia/sakiatop.TopWindows", spec := "topWindows", unfollowed := true, recurses := true, apart := false }
def TopWindowsSaid : Prop := topWindowsRow.holds Tryz.pinned (OpenSpec.ofChange topWindowsSpec)

/-- ITS FALSE NEIGHBOUR: 'it returns false'. Refute it at one input. -/
def topWindowsWrong : ChangeSpec := { name := "topWindows", fn := fun _ => fun
  | [d1, d2] => { results := [.lit (.bool false)], args := [d1, d2] }
  | _ => none }
def TopWindowsWrongFalsely : Prop := topWindowsRow.holds Tryz.pinned (OpenSpec.ofChange topWindowsWrong)

/-- 'sakiatop.TopReduces': WHATEVER THE INPUT: true; the input reads as it did. -/
def topReducesSpec : ChangeSpec := { name := "topReduces", fn := fun _ => fun
  | [d1, d2] => { results := [.lit (.bool true)], args := [d1, d2] }
  | _ => none }
def topReducesRow : OpenClaim := { program := "ytindmkcnjlgomaagreat", sum := "1f5addb412c5a2ba4544306ebc411c9d31246d45e38244084159000225db7902", func := "sakia/sakiatop.TopReduces", spec := "topReduces", unfollowed := true, recurses := true, apart := false }
def TopReducesSaid : Prop := topReducesRow.holds Tryz.pinned (OpenSpec.ofChange topReducesSpec)

/-- ITS FALSE NEIGHBOUR: 'it returns false'. Refute it at one input. -/
def topReducesWrong : ChangeSpec := { name := "topReduces", fn := fun _ => fun
  | [d1, d2] => { results := [.lit (.bool false)], args := [d1, d2] }
  | _ => none }
def TopReducesWrongFalsely : Prop := topReducesRow.holds Tryz.pinned (OpenSpec.ofChange topReducesWrong)

/-- 'sakiatop.TopLives': WHATEVER THE INPUT: true; the input reads as it did. -/
def topLivesSpec : ChangeSpec := { name := "topLives", fn := fun _ => fun
  | [d1, d2] => { results := [.lit (.bool true)], args := [d1, d2] }
  | _ => none }
def topLivesRow : OpenClaim := { program := "ytindmkcnjlgomaagreat", sum := "1f5addb412c5a2ba4544306ebc411c9d31246d45e38244084159000225db7902", func := "sakia/sakiatop.TopLives", spec := "topLives", unfollowed := true, recurses := true, apart := false }
def TopLivesSaid : Prop := topLivesRow.holds Tryz.pinned (OpenSpec.ofChange topLivesSpec)

/-- ITS FALSE NEIGHBOUR: 'it returns false'. Refute it at one input. -/
def topLivesWrong : ChangeSpec := { name := "topLives", fn := fun _ => fun
  | [d1, d2] => { results := [.lit (.bool false)], args := [d1, d2] }
  | _ => none }
def TopLivesWrongFalsely : Prop := topLivesRow.holds Tryz.pinned (OpenSpec.ofChange topLivesWrong)

/- THE SECOND FORM. 'bulk': how many values and letters a reading holds, each counted each time it is reached (what is shared counts as often as it is met; a slice's spare places count too). A statement '..UptoSaid' is the law's where the arguments, and the package variables that the reading takes, are together of bulk at most 1048576: NARROWER than '..Said'. Prove '..Said' where nothing that the law and all that it calls make is longer than what came in: it says more and counts as full. Else prove '..UptoSaid'. A law counts once. -/
mutual
def uptoBulk {H : Type} : DataW H → Nat
  | .lit (.string bytes) => bytes.length + 1
  | .lit _ => 1
  | .nil => 1
  | .ptr d => uptoBulk d + 1
  | .slice elems spare => uptoBulkAll elems + uptoBulkAll spare + 1
  | .agg parts => uptoBulkAll parts + 1
  | .iface _ d => uptoBulk d + 1
  | .map entries => uptoBulkEntries entries + 1
  | .held _ => 1
def uptoBulkAll {H : Type} : List (DataW H) → Nat
  | [] => 0
  | d :: r => uptoBulk d + uptoBulkAll r
def uptoBulkEntries {H : Type} : List (Lit × DataW H) → Nat
  | [] => 0
  | x :: r => uptoBulkEntry x + uptoBulkEntries r
def uptoBulkEntry {H : Type} : Lit × DataW H → Nat
  | (.string bytes, d) => bytes.length + uptoBulk d + 1
  | (_, d) => uptoBulk d + 1
 end
def uptoSmall : (H : Type) → List (DataW H) → Bool := fun _ ds => decide (uptoBulkAll ds ≤ 1048576)
def OpenSpec.upto (s : _root_.Go.ChangeSpec) : _root_.Go.OpenSpec := { _root_.Go.OpenSpec.ofChange s with cond := some uptoSmall }

/-- 'sakiatop.TopFair', WHERE WHAT IT READS IS OF BULK AT MOST 1048576: true; the input reads as it did. -/
def topFairUptoRow : OpenClaim := { program := "ytindmkcnjlgomaagreat", sum := "1f5addb412c5a2ba4544306ebc411c9d31246d45e38244084159000225db7902", func := "sakia/sakiatop.TopFair", spec := "topFair", unfollowed := true, recurses := true, apart := false, narrowed := true }
def TopFairUptoSaid : Prop := topFairUptoRow.holds Tryz.pinned (OpenSpec.upto topFairSpec)

/-- 'sakiatop.TopWindows', WHERE WHAT IT READS IS OF BULK AT MOST 1048576: true; the input reads as it did. -/
def topWindowsUptoRow : OpenClaim := { program := "ytindmkcnjlgomaagreat", sum := "1f5addb412c5a2ba4544306ebc411c9d31246d45e38244084159000225db7902", func := "sakia/sakiatop.TopWindows", spec := "topWindows", unfollowed := true, recurses := true, apart := false, narrowed := true }
def TopWindowsUptoSaid : Prop := topWindowsUptoRow.holds Tryz.pinned (OpenSpec.upto topWindowsSpec)

/-- 'sakiatop.TopReduces', WHERE WHAT IT READS IS OF BULK AT MOST 1048576: true; the input reads as it did. -/
def topReducesUptoRow : OpenClaim := { program := "ytindmkcnjlgomaagreat", sum := "1f5addb412c5a2ba4544306ebc411c9d31246d45e38244084159000225db7902", func := "sakia/sakiatop.TopReduces", spec := "topReduces", unfollowed := true, recurses := true, apart := false, narrowed := true }
def TopReducesUptoSaid : Prop := topReducesUptoRow.holds Tryz.pinned (OpenSpec.upto topReducesSpec)

/-- 'sakiatop.TopLives', WHERE WHAT IT READS IS OF BULK AT MOST 1048576: true; the input reads as it did. -/
def topLivesUptoRow : OpenClaim := { program := "ytindmkcnjlgomaagreat", sum := "1f5addb412c5a2ba4544306ebc411c9d31246d45e38244084159000225db7902", func := "sakia/sakiatop.TopLives", spec := "topLives", unfollowed := true, recurses := true, apart := false, narrowed := true }
def TopLivesUptoSaid : Prop := topLivesUptoRow.holds Tryz.pinned (OpenSpec.upto topLivesSpec)

end Rows
end Go.Proofs.YtindmkcnjlgomaaGreat
