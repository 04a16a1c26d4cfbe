/- Long calls, run. -/
import Derived.Test.YtbnldlojlbbgbaaGreatDoorXLp4
import Derived.KernelRfl
set_option linter.unusedVariables false
set_option linter.unusedSimpArgs false

namespace Go.X
noncomputable section
set_option maxRecDepth 100000
theorem b4x21 : batch lenv4 fuel0 lb4 50 p4x21 p4x22 = true := by kernel_rfl
theorem b4x22 : batch lenv4 fuel0 lb4 50 p4x22 p4x23 = true := by kernel_rfl
theorem b4x23 : batch lenv4 fuel0 lb4 50 p4x23 p4x24 = true := by kernel_rfl
end
end Go.X
