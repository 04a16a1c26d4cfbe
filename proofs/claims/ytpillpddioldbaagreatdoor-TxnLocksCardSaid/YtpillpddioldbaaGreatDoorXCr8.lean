/- Long calls, run. -/
import Derived.Test.YtpillpddioldbaaGreatDoorXl
import Derived.KernelRfl
set_option linter.unusedVariables false
set_option linter.unusedSimpArgs false

namespace Go.X
noncomputable section
set_option maxRecDepth 100000
theorem c6044_run : cutRun P0 ext0 KA drawnRun fuel0 6 c6044 = true := by kernel_rfl
end
end Go.X
