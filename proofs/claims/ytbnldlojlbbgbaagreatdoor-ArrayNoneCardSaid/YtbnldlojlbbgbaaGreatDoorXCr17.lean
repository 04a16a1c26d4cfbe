/- Long calls, run. -/
import Derived.Test.YtbnldlojlbbgbaaGreatDoorXLp13886
import Derived.KernelRfl
set_option linter.unusedVariables false
set_option linter.unusedSimpArgs false

namespace Go.X
noncomputable section
set_option maxRecDepth 100000
theorem b13886x0 : batch lenv13886 fuel0 lb13886 81 p13886x0 p13886x1 = true := by kernel_rfl
theorem b13886x1 : batch lenv13886 fuel0 lb13886 81 p13886x1 p13886x2 = true := by kernel_rfl
end
end Go.X
