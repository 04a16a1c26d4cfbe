/- Long calls, run. -/
import Derived.Test.YtpillpddioldbaaGreatDoorXl
import Derived.KernelRfl
set_option linter.unusedVariables false
set_option linter.unusedSimpArgs false

namespace Go.X
noncomputable section
set_option maxRecDepth 100000
theorem c6579_run : cutRun P0 ext0 K0 drawnRun fuel0 16 c6579 = true := by kernel_rfl
theorem c6972_run : cutRun P0 ext0 K0 drawnRun fuel0 16 c6972 = true := by kernel_rfl
theorem c7363_run : cutRun P0 ext0 K0 drawnRun fuel0 16 c7363 = true := by kernel_rfl
end
end Go.X
