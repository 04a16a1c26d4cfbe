/- Long calls, run. -/
import Derived.Test.YtpillpddioldbaaGreatDoorXl
import Derived.KernelRfl
set_option linter.unusedVariables false
set_option linter.unusedSimpArgs false

namespace Go.X
noncomputable section
set_option maxRecDepth 100000
theorem c2_run : cutRun P0 ext0 KA drawnRun fuel0 6 c2 = true := by kernel_rfl
theorem c2040_run : cutRun P0 ext0 KA drawnRun fuel0 5 c2040 = true := by kernel_rfl
theorem c1_run : cutRun P0 ext0 KB drawnRun fuel0 4 c1 = true := by kernel_rfl
end
end Go.X
