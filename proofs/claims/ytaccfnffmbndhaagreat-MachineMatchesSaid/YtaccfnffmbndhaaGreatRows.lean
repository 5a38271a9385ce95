/-
  No cell of these rows narrows 'for every input' (looked for: loops, veiled, ifaces, maps, wideKeys, modest, calm, conditions, laid).
  DERIVED. THE GIVEN ROWS OF THIS SEAT. 5 by the template 'for every input the law returns true; each argument reads behind the call as it read before'; 0 by the template 'total and deterministic' (their statements: YtaccfnffmbndhaaGreatTotals.lean).
  GIVEN WITH THE SEED: the statements are not yours to turn. If you find one false, say at which input.
  Laid BY PROGRAM, IN A SANDBOX (cutbox-rows.mjs): the forced cells as the released guide's own fill.sh prints them over the translation 50ff4f8089124880… (all of the seat's roots in one cut). By AI agents, Wed Nov 11 2026. No macro, syntax, notation, axiom, sorry.
-/
import Derived.Test.YtaccfnffmbndhaaGreatChecked
import GoSem.Claim
import GoSem.ClaimJoined
import GoSem.ClaimMapViews
import Derived.JoinedTies
import Derived.KernelRfl
namespace Go.Proofs.YtaccfnffmbndhaaGreat
/- THE CELL 'sum', in the pinned program and in every row, IS THE sha256 OF THE DUMP (.gsa) THAT YtaccfnffmbndhaaGreatProg.lean LOADS. Nothing in Lean hashes anything: it is a label: what it is worth is what the hold of that sum in a sandbox is worth. -/
noncomputable def Tryz.pinned : Pinned := { name := "ytaccfnffmbndhaagreat", sum := "50ff4f8089124880e942fd2df9340e225fe77f794f913a757b0c5a3a2116dc1a", checked := Tryz.checked }
namespace Rows
def none {H : Type} : Left H := { results := [], args := [] }

/-- 'sakialaw21.MachineMakes': WHATEVER THE INPUT: true; the input reads as it did. -/
def machineMakesSpec : ChangeSpec := { name := "machineMakes", fn := fun _ => fun
  | [d1, d2] => { results := [.lit (.bool true)], args := [d1, d2] }
  | _ => none }
def machineMakesRow : OpenClaim := { program := "ytaccfnffmbndhaagreat", sum := "50ff4f8089124880e942fd2df9340e225fe77f794f913a757b0c5a3a2116dc1a", func := "sakia/sakialaw21.MachineMakes", spec := "machineMakes", unfollowed := true, recurses := true, apart := false }
def MachineMakesSaid : Prop := machineMakesRow.holds Tryz.pinned (OpenSpec.ofChange machineMakesSpec)

/-- ITS FALSE NEIGHBOUR: 'it returns false'. Refute it at one input. -/
def machineMakesWrong : ChangeSpec := { name := "machineMakes", fn := fun _ => fun
  | [d1, d2] => { results := [.lit (.bool false)], args := [d1, d2] }
  | _ => none }
def MachineMakesWrongFalsely : Prop := machineMakesRow.holds Tryz.pinned (OpenSpec.ofChange machineMakesWrong)

/-- 'sakialaw21.MachineNil': WHATEVER THE INPUT: true; the input reads as it did. -/
def machineNilSpec : ChangeSpec := { name := "machineNil", fn := fun _ => fun
  | [d1, d2] => { results := [.lit (.bool true)], args := [d1, d2] }
  | _ => none }
def machineNilRow : OpenClaim := { program := "ytaccfnffmbndhaagreat", sum := "50ff4f8089124880e942fd2df9340e225fe77f794f913a757b0c5a3a2116dc1a", func := "sakia/sakialaw21.MachineNil", spec := "machineNil", unfollowed := true, recurses := true, apart := false }
def MachineNilSaid : Prop := machineNilRow.holds Tryz.pinned (OpenSpec.ofChange machineNilSpec)

/-- ITS FALSE NEIGHBOUR: 'it returns false'. Refute it at one input. -/
def machineNilWrong : ChangeSpec := { name := "machineNil", fn := fun _ => fun
  | [d1, d2] => { results := [.lit (.bool false)], args := [d1, d2] }
  | _ => none }
def MachineNilWrongFalsely : Prop := machineNilRow.holds Tryz.pinned (OpenSpec.ofChange machineNilWrong)

/-- 'sakialaw21.MachineComputes': WHATEVER THE INPUT: true; the input reads as it did. -/
def machineComputesSpec : ChangeSpec := { name := "machineComputes", fn := fun _ => fun
  | [d1, d2] => { results := [.lit (.bool true)], args := [d1, d2] }
  | _ => none }
def machineComputesRow : OpenClaim := { program := "ytaccfnffmbndhaagreat", sum := "50ff4f8089124880e942fd2df9340e225fe77f794f913a757b0c5a3a2116dc1a", func := "sakia/sakialaw21.MachineComputes", spec := "machineComputes", unfollowed := true, recurses := true, apart := false }
def MachineComputesSaid : Prop := machineComputesRow.holds Tryz.pinned (OpenSpec.ofChange machineComputesSpec)

/-- ITS FALSE NEIGHBOUR: 'it returns false'. Refute it at one input. -/
def machineComputesWrong : ChangeSpec := { name := "machineComputes", fn := fun _ => fun
  | [d1, d2] => { results := [.lit (.bool false)], args := [d1, d2] }
  | _ => none }
def MachineComputesWrongFalsely : Prop := machineComputesRow.holds Tryz.pinned (OpenSpec.ofChange machineComputesWrong)

/-- 'sakialaw21.MachineAlone': WHATEVER THE INPUT: true; the input reads as it did. -/
def machineAloneSpec : ChangeSpec := { name := "machineAlone", fn := fun _ => fun
  | [d] => { results := [.lit (.bool true)], args := [d] }
  | _ => none }
def machineAloneRow : OpenClaim := { program := "ytaccfnffmbndhaagreat", sum := "50ff4f8089124880e942fd2df9340e225fe77f794f913a757b0c5a3a2116dc1a", func := "sakia/sakialaw21.MachineAlone", spec := "machineAlone", unfollowed := true, recurses := true, apart := false }
def MachineAloneSaid : Prop := machineAloneRow.holds Tryz.pinned (OpenSpec.ofChange machineAloneSpec)

/-- ITS FALSE NEIGHBOUR: 'it returns false'. Refute it at one input. -/
def machineAloneWrong : ChangeSpec := { name := "machineAlone", fn := fun _ => fun
  | [d] => { results := [.lit (.bool false)], args := [d] }
  | _ => none }
def MachineAloneWrongFalsely : Prop := machineAloneRow.holds Tryz.pinned (OpenSpec.ofChange machineAloneWrong)

/-- 'sakialaw21.MachineMatches': WHATEVER THE INPUT: true; the input reads as it did. -/
def machineMatchesSpec : ChangeSpec := { name := "machineMatches", fn := fun _ => fun
  | [d1, d2, d3] => { results := [.lit (.bool true)], args := [d1, d2, d3] }
  | _ => none }
def machineMatchesRow : OpenClaim := { program := "ytaccfnffmbndhaagreat", sum := "50ff4f8089124880e942fd2df9340e225fe77f794f913a757b0c5a3a2116dc1a", func := "sakia/sakialaw21.MachineMatches", spec := "machineMatches", unfollowed := true, recurses := true, apart := false }
def MachineMatchesSaid : Prop := machineMatchesRow.holds Tryz.pinned (OpenSpec.ofChange machineMatchesSpec)

/-- ITS FALSE NEIGHBOUR: 'it returns false'. Refute it at one input. -/
def machineMatchesWrong : ChangeSpec := { name := "machineMatches", fn := fun _ => fun
  | [d1, d2, d3] => { results := [.lit (.bool false)], args := [d1, d2, d3] }
  | _ => none }
def MachineMatchesWrongFalsely : Prop := machineMatchesRow.holds Tryz.pinned (OpenSpec.ofChange machineMatchesWrong)

/- THE SECOND FORM. 'bulk': how many values and letters a reading holds, each counted each time it is reached (what is shared counts as often as it is met; a slice's spare places count too). A statement '..UptoSaid' is the law's where the arguments, and the package variables that the reading takes, are together of bulk at most 1048576: NARROWER than '..Said'. Prove '..Said' where nothing that the law and all that it calls make is longer than what came in: it says more and counts as full. Else prove '..UptoSaid'. A law counts once. -/
mutual
def uptoBulk {H : Type} : DataW H → Nat
  | .lit (.string bytes) => bytes.length + 1
  | .lit _ => 1
  | .nil => 1
  | .ptr d => uptoBulk d + 1
  | .slice elems spare => uptoBulkAll elems + uptoBulkAll spare + 1
  | .agg parts => uptoBulkAll parts + 1
  | .iface _ d => uptoBulk d + 1
  | .map entries => uptoBulkEntries entries + 1
  | .held _ => 1
def uptoBulkAll {H : Type} : List (DataW H) → Nat
  | [] => 0
  | d :: r => uptoBulk d + uptoBulkAll r
def uptoBulkEntries {H : Type} : List (Lit × DataW H) → Nat
  | [] => 0
  | x :: r => uptoBulkEntry x + uptoBulkEntries r
def uptoBulkEntry {H : Type} : Lit × DataW H → Nat
  | (.string bytes, d) => bytes.length + uptoBulk d + 1
  | (_, d) => uptoBulk d + 1
 end
def uptoSmall : (H : Type) → List (DataW H) → Bool := fun _ ds => decide (uptoBulkAll ds ≤ 1048576)
def OpenSpec.upto (s : _root_.Go.ChangeSpec) : _root_.Go.OpenSpec := { _root_.Go.OpenSpec.ofChange s with cond := some uptoSmall }

/-- 'sakialaw21.MachineMakes', WHERE WHAT IT READS IS OF BULK AT MOST 1048576: true; the input reads as it did. -/
def machineMakesUptoRow : OpenClaim := { program := "ytaccfnffmbndhaagreat", sum := "50ff4f8089124880e942fd2df9340e225fe77f794f913a757b0c5a3a2116dc1a", func := "sakia/sakialaw21.MachineMakes", spec := "machineMakes", unfollowed := true, recurses := true, apart := false, narrowed := true }
def MachineMakesUptoSaid : Prop := machineMakesUptoRow.holds Tryz.pinned (OpenSpec.upto machineMakesSpec)

/-- 'sakialaw21.MachineNil', WHERE WHAT IT READS IS OF BULK AT MOST 1048576: true; the input reads as it did. -/
def machineNilUptoRow : OpenClaim := { program := "ytaccfnffmbndhaagreat", sum := "50ff4f8089124880e942fd2df9340e225fe77f794f913a757b0c5a3a2116dc1a", func := "sakia/sakialaw21.MachineNil", spec := "machineNil", unfollowed := true, recurses := true, apart := false, narrowed := true }
def MachineNilUptoSaid : Prop := machineNilUptoRow.holds Tryz.pinned (OpenSpec.upto machineNilSpec)

/-- 'sakialaw21.MachineComputes', WHERE WHAT IT READS IS OF BULK AT MOST 1048576: true; the input reads as it did. -/
def machineComputesUptoRow : OpenClaim := { program := "ytaccfnffmbndhaagreat", sum := "50ff4f8089124880e942fd2df9340e225fe77f794f913a757b0c5a3a2116dc1a", func := "sakia/sakialaw21.MachineComputes", spec := "machineComputes", unfollowed := true, recurses := true, apart := false, narrowed := true }
def MachineComputesUptoSaid : Prop := machineComputesUptoRow.holds Tryz.pinned (OpenSpec.upto machineComputesSpec)

/-- 'sakialaw21.MachineAlone', WHERE WHAT IT READS IS OF BULK AT MOST 1048576: true; the input reads as it did. -/
def machineAloneUptoRow : OpenClaim := { program := "ytaccfnffmbndhaagreat", sum := "50ff4f8089124880e942fd2df9340e225fe77f794f913a757b0c5a3a2116dc1a", func := "sakia/sakialaw21.MachineAlone", spec := "machineAlone", unfollowed := true, recurses := true, apart := false, narrowed := true }
def MachineAloneUptoSaid : Prop := machineAloneUptoRow.holds Tryz.pinned (OpenSpec.upto machineAloneSpec)

/-- 'sakialaw21.MachineMatches', WHERE WHAT IT READS IS OF BULK AT MOST 1048576: true; the input reads as it did. -/
def machineMatchesUptoRow : OpenClaim := { program := "ytaccfnffmbndhaagreat", sum := "50ff4f8089124880e942fd2df9340e225fe77f794f913a757b0c5a3a2116dc1a", func := "sakia/sakialaw21.MachineMatches", spec := "machineMatches", unfollowed := true, recurses := true, apart := false, narrowed := true }
def MachineMatchesUptoSaid : Prop := machineMatchesUptoRow.holds Tryz.pinned (OpenSpec.upto machineMatchesSpec)

end Rows
end Go.Proofs.YtaccfnffmbndhaaGreat
