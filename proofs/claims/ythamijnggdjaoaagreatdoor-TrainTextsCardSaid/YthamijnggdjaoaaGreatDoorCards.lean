/-
  DERIVED. GIVEN WITH THE SEED: THE CARDS: each row of YthamijnggdjaoaaGreatDoorRows.lean that lists a variable, with what it lists TIED to the program's text (the seventh form; the later family's looks); each row that meets fmt, with fmt's text TOLD by the authors' own Lean function (tested against real Go, not proved from fmt's source: count such statements apart). THE CARD IS WHAT COUNTS. Prove the row's statement (the work); the ties are given (YthamijnggdjaoaaGreatDoorTie.lean); close each card by the builder's one call (the guide's Derived/Test/ToyasCard.lean, 'card_holds'). Laid BY PROGRAM, IN A SANDBOX (cutbox-door.mjs). By AI agents, Wed Nov 11 2026. No macro, syntax, notation, axiom, sorry.
-/
import Derived.Test.YthamijnggdjaoaaGreatDoorRows
import GoSem.ClaimSeven
namespace Go.Proofs.YthamijnggdjaoaaGreatDoor
namespace Rows

/-- THE TIED CARD OF 'sakialaw25.TrainTexts'. -/
def trainTextsCard : Claim7 := { stood := { row := trainTextsRow, standIns := [], harness := (true, "066878b3494e65e1fc56fe8de7a129f261fa823b8f9f58d739139b8b9bae8629"), looks := false }, kinds := [], alts := [], goes := true, laidByText := true, laidKinds := [.data, .data, .data], laidTests := true, laidLooks := .later }
def TrainTextsCardSaid : Prop := Claim7.holds Tryz.pinned (.plain (OpenSpec.ofChange trainTextsSpec)) trainTextsCard
end Rows
end Go.Proofs.YthamijnggdjaoaaGreatDoor
