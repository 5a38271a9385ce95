/- The row's closed facts. -/
import Derived.Test.YtpegdddffenleaaGreatDoorRows
import Derived.Test.YtpegdddffenleaaGreatDoorScnF
import Derived.Test.YtpegdddffenleaaGreatDoorScnH
import Derived.KernelRfl
import Derived.JoinedOf
set_option linter.unusedSimpArgs false
set_option linter.unusedVariables false
namespace Go.Proofs.YtpegdddffenleaaGreatDoor
open Go

theorem scnLaid : laidOutB Tryz.prog = true := by kernel_rfl
theorem scnA : Tryz.prog.funcNamed "sakia/sakialaw26.ScriptNil" = some 4 := by kernel_rfl
theorem scnJ5 : Rows.scriptNilRow.wf (OpenSpec.ofChange Rows.scriptNilSpec) = true := by kernel_rfl
theorem scnJ6 : mapsRowed Tryz.prog = true := by kernel_rfl
theorem scnB : joinedFacts Tryz.prog 4 Tryz.f4 Rows.scriptNilSpec Rows.scriptNilRow = true := by
  unfold joinedFacts
  rw [scnJ1, scnJ2, scnJ3, scnJ4, scnJ5, scnJ6, scnLaid]
  kernel_rfl
end Go.Proofs.YtpegdddffenleaaGreatDoor
