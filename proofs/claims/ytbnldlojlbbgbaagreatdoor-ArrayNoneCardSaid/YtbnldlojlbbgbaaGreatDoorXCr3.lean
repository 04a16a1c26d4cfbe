/- Long calls, run. -/
import Derived.Test.YtbnldlojlbbgbaaGreatDoorXl
import Derived.KernelRfl
set_option linter.unusedVariables false
set_option linter.unusedSimpArgs false

namespace Go.X
noncomputable section
set_option maxRecDepth 100000
theorem c15960_run : cutRun P0 ext0 KL0 drawnRun fuel0 34 c15960 = true := by kernel_rfl
theorem c16102_run : cutRun P0 ext0 KL0 drawnRun fuel0 34 c16102 = true := by kernel_rfl
theorem c16240_run : cutRun P0 ext0 KL0 drawnRun fuel0 34 c16240 = true := by kernel_rfl
theorem c16382_run : cutRun P0 ext0 KL0 drawnRun fuel0 34 c16382 = true := by kernel_rfl
theorem c16520_run : cutRun P0 ext0 KL0 drawnRun fuel0 34 c16520 = true := by kernel_rfl
theorem c15957_run : cutRun P0 ext0 KL1 drawnRun fuel0 13 c15957 = true := by kernel_rfl
theorem c11468_run : cutRun P0 ext0 KL1 drawnRun fuel0 38 c11468 = true := by kernel_rfl
theorem c12689_run : cutRun P0 ext0 KL1 drawnRun fuel0 38 c12689 = true := by kernel_rfl
end
end Go.X
