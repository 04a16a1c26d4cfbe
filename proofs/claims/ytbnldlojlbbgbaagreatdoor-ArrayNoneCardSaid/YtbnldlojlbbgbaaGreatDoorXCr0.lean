/- Long calls, run. -/
import Derived.Test.YtbnldlojlbbgbaaGreatDoorXl
import Derived.KernelRfl
set_option linter.unusedVariables false
set_option linter.unusedSimpArgs false

namespace Go.X
noncomputable section
set_option maxRecDepth 100000
theorem c9178_run : cutRun P0 ext0 KL0 drawnRun fuel0 27 c9178 = true := by kernel_rfl
theorem c9503_run : cutRun P0 ext0 KL0 drawnRun fuel0 27 c9503 = true := by kernel_rfl
theorem c9894_run : cutRun P0 ext0 KL0 drawnRun fuel0 27 c9894 = true := by kernel_rfl
end
end Go.X
