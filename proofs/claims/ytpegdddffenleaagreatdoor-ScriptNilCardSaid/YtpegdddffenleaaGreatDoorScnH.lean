/- The row's closed facts: what the call can come to. -/
import Derived.Test.YtpegdddffenleaaGreatDoorRows
import Derived.KernelRfl
import Derived.JoinedOf
set_option linter.unusedSimpArgs false
set_option linter.unusedVariables false
namespace Go.Proofs.YtpegdddffenleaaGreatDoor
open Go

theorem scnJ3 : Tryz.prog.recurses 4 = Rows.scriptNilRow.recurses := by kernel_rfl
theorem scnJ4 : Tryz.prog.varsNamed 4 = Rows.scriptNilRow.named := by kernel_rfl
end Go.Proofs.YtpegdddffenleaaGreatDoor
