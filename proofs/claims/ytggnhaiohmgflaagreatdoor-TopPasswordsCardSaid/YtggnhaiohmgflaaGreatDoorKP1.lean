/- Runs of TopPasswords are evaluated. No conditions. -/
import Derived.Test.YtggnhaiohmgflaaGreatDoorKI
set_option linter.unusedVariables false
set_option linter.unusedSimpArgs false
namespace Go.Proofs.YtggnhaiohmgflaaGreatDoor.Sx
theorem k1 : runK 1 = true := by decide +kernel
theorem p1000 : runP 1 0 0 0 79 = true := by decide +kernel
theorem p1001 : runP 1 0 0 80 235 = true := by decide +kernel
theorem p1002 : runP 1 0 0 236 255 = true := by decide +kernel
theorem p1010 : runP 1 0 1 0 79 = true := by decide +kernel
theorem p1011 : runP 1 0 1 80 235 = true := by decide +kernel
theorem p1012 : runP 1 0 1 236 255 = true := by decide +kernel
end Go.Proofs.YtggnhaiohmgflaaGreatDoor.Sx
namespace Go.Proofs.YtggnhaiohmgflaaGreatDoor.Sx
theorem p1100 : runP 1 1 0 0 79 = true := by decide +kernel
theorem p1101 : runP 1 1 0 80 235 = true := by decide +kernel
theorem p1102 : runP 1 1 0 236 255 = true := by decide +kernel
theorem p1110 : runP 1 1 1 0 79 = true := by decide +kernel
theorem p1111 : runP 1 1 1 80 235 = true := by decide +kernel
theorem p1112 : runP 1 1 1 236 255 = true := by decide +kernel
end Go.Proofs.YtggnhaiohmgflaaGreatDoor.Sx
