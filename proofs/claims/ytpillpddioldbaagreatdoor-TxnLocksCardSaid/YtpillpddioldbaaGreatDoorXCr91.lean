/- Long calls, run. -/
import Derived.Test.YtpillpddioldbaaGreatDoorXl
import Derived.KernelRfl
set_option linter.unusedVariables false
set_option linter.unusedSimpArgs false

namespace Go.X
noncomputable section
set_option maxRecDepth 100000
theorem q1_7698_run : cutRun P0 ext0 K0 drawnRun fuel0 8 q1_7698 = true := by kernel_rfl
theorem q1_7902_run : cutRun P0 ext0 K0 drawnRun fuel0 8 q1_7902 = true := by kernel_rfl
theorem q1_8051_run : cutRun P0 ext0 K0 drawnRun fuel0 8 q1_8051 = true := by kernel_rfl
theorem q1_8304_run : cutRun P0 ext0 K0 drawnRun fuel0 10 q1_8304 = true := by kernel_rfl
end
end Go.X
