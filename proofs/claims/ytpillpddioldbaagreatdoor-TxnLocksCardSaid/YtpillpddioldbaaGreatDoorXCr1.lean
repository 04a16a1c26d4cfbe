/- Long calls, run. -/
import Derived.Test.YtpillpddioldbaaGreatDoorXl
import Derived.KernelRfl
set_option linter.unusedVariables false
set_option linter.unusedSimpArgs false

namespace Go.X
noncomputable section
set_option maxRecDepth 100000
theorem c297_run : cutRun P0 ext0 K0 drawnRun fuel0 16 c297 = true := by kernel_rfl
theorem c690_run : cutRun P0 ext0 K0 drawnRun fuel0 16 c690 = true := by kernel_rfl
theorem c1081_run : cutRun P0 ext0 K0 drawnRun fuel0 16 c1081 = true := by kernel_rfl
end
end Go.X
