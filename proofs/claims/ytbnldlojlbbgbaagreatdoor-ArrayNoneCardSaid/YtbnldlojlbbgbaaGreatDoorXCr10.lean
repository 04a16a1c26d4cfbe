/- Long calls, run. -/
import Derived.Test.YtbnldlojlbbgbaaGreatDoorXLp4
import Derived.KernelRfl
set_option linter.unusedVariables false
set_option linter.unusedSimpArgs false

namespace Go.X
noncomputable section
set_option maxRecDepth 100000
theorem b4x12 : batch lenv4 fuel0 lb4 50 p4x12 p4x13 = true := by kernel_rfl
theorem b4x13 : batch lenv4 fuel0 lb4 50 p4x13 p4x14 = true := by kernel_rfl
theorem b4x14 : batch lenv4 fuel0 lb4 50 p4x14 p4x15 = true := by kernel_rfl
end
end Go.X
