/- Long calls, run. -/
import Derived.Test.YtbnldlojlbbgbaaGreatDoorXl
import Derived.KernelRfl
set_option linter.unusedVariables false
set_option linter.unusedSimpArgs false

namespace Go.X
noncomputable section
set_option maxRecDepth 100000
theorem c12384_run : cutRun P0 ext0 KL1 drawnRun fuel0 39 c12384 = true := by kernel_rfl
theorem c13506_run : cutRun P0 ext0 KL1 drawnRun fuel0 39 c13506 = true := by kernel_rfl
theorem c15135_run : cutRun P0 ext0 KL1 drawnRun fuel0 22 c15135 = true := by kernel_rfl
end
end Go.X
