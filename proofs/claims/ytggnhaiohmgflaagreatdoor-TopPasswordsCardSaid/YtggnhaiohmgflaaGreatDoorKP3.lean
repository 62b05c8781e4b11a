/- Runs of TopPasswords are evaluated. No conditions. -/
import Derived.Test.YtggnhaiohmgflaaGreatDoorKI
set_option linter.unusedVariables false
set_option linter.unusedSimpArgs false
namespace Go.Proofs.YtggnhaiohmgflaaGreatDoor.Sx
theorem k3 : runK 3 = true := by decide +kernel
theorem p3000 : runP 3 0 0 0 79 = true := by decide +kernel
theorem p3001 : runP 3 0 0 80 235 = true := by decide +kernel
theorem p3002 : runP 3 0 0 236 255 = true := by decide +kernel
theorem p3010 : runP 3 0 1 0 79 = true := by decide +kernel
theorem p3011 : runP 3 0 1 80 235 = true := by decide +kernel
theorem p3012 : runP 3 0 1 236 255 = true := by decide +kernel
end Go.Proofs.YtggnhaiohmgflaaGreatDoor.Sx
namespace Go.Proofs.YtggnhaiohmgflaaGreatDoor.Sx
theorem p3100 : runP 3 1 0 0 79 = true := by decide +kernel
theorem p3101 : runP 3 1 0 80 235 = true := by decide +kernel
theorem p3102 : runP 3 1 0 236 255 = true := by decide +kernel
theorem p3110 : runP 3 1 1 0 79 = true := by decide +kernel
theorem p3111 : runP 3 1 1 80 235 = true := by decide +kernel
theorem p3112 : runP 3 1 1 236 255 = true := by decide +kernel
end Go.Proofs.YtggnhaiohmgflaaGreatDoor.Sx
