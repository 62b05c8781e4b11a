/- awake is evaluated. No conditions. -/
import Derived.Test.YtggnhaiohmgflaaGreatDoorKI
set_option linter.unusedVariables false
set_option linter.unusedSimpArgs false
namespace Go.Proofs.YtggnhaiohmgflaaGreatDoor.Sx
open Go
theorem awake_ev : okTrue (callF C 60 4 [] h0) = true := by decide +kernel
end Go.Proofs.YtggnhaiohmgflaaGreatDoor.Sx
