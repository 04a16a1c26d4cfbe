/- Long calls, run. -/
import Derived.Test.YtpillpddioldbaaGreatDoorXl
import Derived.KernelRfl
set_option linter.unusedVariables false
set_option linter.unusedSimpArgs false

namespace Go.X
noncomputable section
set_option maxRecDepth 100000
theorem c1414_run : cutRun P0 ext0 K0 drawnRun fuel0 8 c1414 = true := by kernel_rfl
theorem c1618_run : cutRun P0 ext0 K0 drawnRun fuel0 8 c1618 = true := by kernel_rfl
theorem c1750_run : cutRun P0 ext0 K0 drawnRun fuel0 10 c1750 = true := by kernel_rfl
end
end Go.X
