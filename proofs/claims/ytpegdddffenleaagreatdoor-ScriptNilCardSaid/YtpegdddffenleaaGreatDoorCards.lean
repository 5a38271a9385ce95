/-
  DERIVED. GIVEN WITH THE SEED: THE CARDS: each row of YtpegdddffenleaaGreatDoorRows.lean that lists a variable, with what it lists TIED to the program's text (the seventh form; the later family's looks); each row that meets fmt, with fmt's text TOLD by the authors' own Lean function (tested against real Go, not proved from fmt's source: count such statements apart). THE CARD IS WHAT COUNTS. Prove the row's statement (the work); the ties are given (YtpegdddffenleaaGreatDoorTie.lean); close each card by the builder's one call (the guide's Derived/Test/ToyasCard.lean, 'card_holds'). Laid BY PROGRAM, IN A SANDBOX (cutbox-door.mjs). By AI agents, Wed Nov 11 2026. No macro, syntax, notation, axiom, sorry.
-/
import Derived.Test.YtpegdddffenleaaGreatDoorRows
import GoSem.ClaimSeven
namespace Go.Proofs.YtpegdddffenleaaGreatDoor
namespace Rows

/-- THE TIED CARD OF 'sakialaw26.ScriptWrong'. -/
def scriptWrongCard : Claim7 := { stood := { row := scriptWrongRow, standIns := [], harness := (true, "a2c5d1d00ce4e7258a9e025c92534a60052ad7615f4ac2a2550ca81394b08f80"), looks := true }, kinds := [], alts := [], goes := true, laidByText := true, laidKinds := [.data, .data, .data, .data, .sentinel, .sentinel, .pinned], laidTests := true, laidLooks := .later }
def ScriptWrongCardSaid : Prop := Claim7.holds Tryz.pinned (.plain (OpenSpec.ofChange scriptWrongSpec)) scriptWrongCard

/-- THE TIED CARD OF 'sakialaw26.ScriptNil'. -/
def scriptNilCard : Claim7 := { stood := { row := scriptNilRow, standIns := [], harness := (true, "a2c5d1d00ce4e7258a9e025c92534a60052ad7615f4ac2a2550ca81394b08f80"), looks := true }, kinds := [], alts := [], goes := true, laidByText := true, laidKinds := [.data, .data, .data, .data, .sentinel, .sentinel, .pinned], laidTests := true, laidLooks := .later }
def ScriptNilCardSaid : Prop := Claim7.holds Tryz.pinned (.plain (OpenSpec.ofChange scriptNilSpec)) scriptNilCard
end Rows
end Go.Proofs.YtpegdddffenleaaGreatDoor
