/- Long calls, run. -/
import Derived.Test.YtbnldlojlbbgbaaGreatDoorXl
import Derived.KernelRfl
set_option linter.unusedVariables false
set_option linter.unusedSimpArgs false

namespace Go.X
noncomputable section
set_option maxRecDepth 100000
theorem c14699_run : cutRun P0 ext0 KL0 drawnRun fuel0 263 c14699 = true := by kernel_rfl
theorem c14917_run : cutRun P0 ext0 KL0 drawnRun fuel0 263 c14917 = true := by kernel_rfl
theorem c14718_run : cutRun P0 ext0 KL0 drawnRun fuel0 139 c14718 = true := by kernel_rfl
theorem c14936_run : cutRun P0 ext0 KL0 drawnRun fuel0 139 c14936 = true := by kernel_rfl
end
end Go.X
