/- Runs of TopPasswords are evaluated. No conditions. -/
import Derived.Test.YtggnhaiohmgflaaGreatDoorKI
set_option linter.unusedVariables false
set_option linter.unusedSimpArgs false
namespace Go.Proofs.YtggnhaiohmgflaaGreatDoor.Sx
theorem k0 : runK 0 = true := by decide +kernel
theorem p0000 : runP 0 0 0 0 79 = true := by decide +kernel
theorem p0001 : runP 0 0 0 80 235 = true := by decide +kernel
theorem p0002 : runP 0 0 0 236 255 = true := by decide +kernel
theorem p0010 : runP 0 0 1 0 79 = true := by decide +kernel
theorem p0011 : runP 0 0 1 80 235 = true := by decide +kernel
theorem p0012 : runP 0 0 1 236 255 = true := by decide +kernel
end Go.Proofs.YtggnhaiohmgflaaGreatDoor.Sx
namespace Go.Proofs.YtggnhaiohmgflaaGreatDoor.Sx
theorem p0100 : runP 0 1 0 0 79 = true := by decide +kernel
theorem p0101 : runP 0 1 0 80 235 = true := by decide +kernel
theorem p0102 : runP 0 1 0 236 255 = true := by decide +kernel
theorem p0110 : runP 0 1 1 0 79 = true := by decide +kernel
theorem p0111 : runP 0 1 1 80 235 = true := by decide +kernel
theorem p0112 : runP 0 1 1 236 255 = true := by decide +kernel
end Go.Proofs.YtggnhaiohmgflaaGreatDoor.Sx
