/- Long calls, run. -/
import Derived.Test.YtpillpddioldbaaGreatDoorXl
import Derived.KernelRfl
set_option linter.unusedVariables false
set_option linter.unusedSimpArgs false

namespace Go.X
noncomputable section
set_option maxRecDepth 100000
theorem q0_7698_run : cutRun P0 ext0 K0 drawnRun fuel0 8 q0_7698 = true := by kernel_rfl
theorem q0_7902_run : cutRun P0 ext0 K0 drawnRun fuel0 8 q0_7902 = true := by kernel_rfl
theorem q0_8051_run : cutRun P0 ext0 K0 drawnRun fuel0 8 q0_8051 = true := by kernel_rfl
theorem q0_8304_run : cutRun P0 ext0 K0 drawnRun fuel0 10 q0_8304 = true := by kernel_rfl
end
end Go.X
