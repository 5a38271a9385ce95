/- The row's closed facts: what the call can come to. -/
import Derived.Test.YtpegdddffenleaaGreatDoorRows
import Derived.KernelRfl
import Derived.JoinedOf
set_option linter.unusedSimpArgs false
set_option linter.unusedVariables false
namespace Go.Proofs.YtpegdddffenleaaGreatDoor
open Go

theorem scnJ1 : Tryz.prog.inPlace 4 = Rows.scriptNilRow.inPlace := by kernel_rfl
theorem scnJ2 : Tryz.prog.unfollowed 4 = Rows.scriptNilRow.unfollowed := by kernel_rfl
end Go.Proofs.YtpegdddffenleaaGreatDoor
