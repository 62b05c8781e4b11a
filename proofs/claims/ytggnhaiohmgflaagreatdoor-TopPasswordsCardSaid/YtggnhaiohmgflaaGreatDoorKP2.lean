/- Runs of TopPasswords are evaluated. No conditions. -/
import Derived.Test.YtggnhaiohmgflaaGreatDoorKI
set_option linter.unusedVariables false
set_option linter.unusedSimpArgs false
namespace Go.Proofs.YtggnhaiohmgflaaGreatDoor.Sx
theorem k2 : runK 2 = true := by decide +kernel
theorem p2000 : runP 2 0 0 0 79 = true := by decide +kernel
theorem p2001 : runP 2 0 0 80 235 = true := by decide +kernel
theorem p2002 : runP 2 0 0 236 255 = true := by decide +kernel
theorem p2010 : runP 2 0 1 0 79 = true := by decide +kernel
theorem p2011 : runP 2 0 1 80 235 = true := by decide +kernel
theorem p2012 : runP 2 0 1 236 255 = true := by decide +kernel
end Go.Proofs.YtggnhaiohmgflaaGreatDoor.Sx
namespace Go.Proofs.YtggnhaiohmgflaaGreatDoor.Sx
theorem p2100 : runP 2 1 0 0 79 = true := by decide +kernel
theorem p2101 : runP 2 1 0 80 235 = true := by decide +kernel
theorem p2102 : runP 2 1 0 236 255 = true := by decide +kernel
theorem p2110 : runP 2 1 1 0 79 = true := by decide +kernel
theorem p2111 : runP 2 1 1 80 235 = true := by decide +kernel
theorem p2112 : runP 2 1 1 236 255 = true := by decide +kernel
end Go.Proofs.YtggnhaiohmgflaaGreatDoor.Sx
