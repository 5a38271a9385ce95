/- A world that fits the row of ScriptNil. -/
import Derived.Test.YtpegdddffenleaaGreatDoorRows
import Derived.Deep.DeepHandedRow
import Derived.Lib.LaidTab
import Derived.KernelRfl
set_option linter.unusedSimpArgs false
set_option linter.unusedVariables false
namespace Go.Proofs.YtpegdddffenleaaGreatDoor
open Go

/-- The cells that a datum of a table lays. -/
def cellsTab : DataW Unit → List Value
  | .agg l => l.flatMap fun d => match d with | .lit (.int k z) => [Value.int k z] | .agg m => m.flatMap (fun e => match e with | .lit (.int k z) => [Value.int k z] | _ => []) | _ => []
  | _ => []
def putTab (xs : List Value) : Obj → Obj
  | .cells _ t frozen => .cells xs.toArray t frozen
  | o => o
noncomputable def wBase (os : Os) : World := World.holding Tryz.prog os ⟨#[], #[], []⟩
def hNil (h : Array Obj) (n : Nat) : Array Obj :=
  let h1 := h.modify 1 (putTab (cellsTab Rows.laid_unicode_utf8_first))
  let h2 := h1.modify 2 (putTab (cellsTab Rows.laid_unicode_utf8_acceptRanges))
  let h3 := h2.modify 3 (putTab (cellsTab Rows.laid_internal_strconv_uint64pow10))
  let h4 := h3.modify 4 (putTab [.iface 407 (.pointer (some ⟨n, 0, none⟩))])
  let h5 := h4.modify 5 (putTab [.iface 407 (.pointer (some ⟨n + 1, 0, none⟩))])
  let h6 := h5.modify 6 (putTab (cellsTab Rows.laid_math_bits_deBruijn32tab))
  let h7 := h6.modify 7 (putTab (cellsTab Rows.laid_math_bits_deBruijn64tab))
  (h7.push (.cells #[.string ⟨#[105, 110, 118, 97, 108, 105, 100, 32, 115, 121, 110, 116, 97, 120]⟩] 409)).push (.cells #[.string ⟨#[118, 97, 108, 117, 101, 32, 111, 117, 116, 32, 111, 102, 32, 114, 97, 110, 103, 101]⟩] 409)
noncomputable def wNil (os : Os) : World := { wBase os with heap := hNil (wBase os).heap (wBase os).heap.size }
noncomputable def aNil : Array Value := #[.string ⟨#[]⟩]
theorem nilLaid (os : Os) : laidMet Tryz.prog Rows.scriptNilRow.laid ((wNil os).forCall (fun _ _ => 0) ⟨#[], aNil, []⟩).memory :=
  laidMet_of_run' 8 (by kernel_rfl) (by kernel_rfl)
end Go.Proofs.YtpegdddffenleaaGreatDoor
