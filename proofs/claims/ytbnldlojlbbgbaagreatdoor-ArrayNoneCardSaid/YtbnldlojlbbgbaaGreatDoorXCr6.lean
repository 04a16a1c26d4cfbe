/- Long calls, run. -/
import Derived.Test.YtbnldlojlbbgbaaGreatDoorXLp4
import Derived.KernelRfl
set_option linter.unusedVariables false
set_option linter.unusedSimpArgs false

namespace Go.X
noncomputable section
set_option maxRecDepth 100000
theorem b4x0 : batch lenv4 fuel0 lb4 50 p4x0 p4x1 = true := by kernel_rfl
theorem b4x1 : batch lenv4 fuel0 lb4 50 p4x1 p4x2 = true := by kernel_rfl
theorem b4x2 : batch lenv4 fuel0 lb4 50 p4x2 p4x3 = true := by kernel_rfl
end
end Go.X
