/- Long calls, run. -/
import Derived.Test.YtbnldlojlbbgbaaGreatDoorXl
import Derived.KernelRfl
set_option linter.unusedVariables false
set_option linter.unusedSimpArgs false

namespace Go.X
noncomputable section
set_option maxRecDepth 100000
theorem c10287_run : cutRun P0 ext0 KL0 drawnRun fuel0 27 c10287 = true := by kernel_rfl
theorem c10941_run : cutRun P0 ext0 KL0 drawnRun fuel0 27 c10941 = true := by kernel_rfl
theorem c13858_run : cutRun P0 ext0 KL0 drawnRun fuel0 263 c13858 = true := by kernel_rfl
end
end Go.X
