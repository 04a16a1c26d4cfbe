/- Long calls, run. -/
import Derived.Test.YtbnldlojlbbgbaaGreatDoorXLp4
import Derived.KernelRfl
set_option linter.unusedVariables false
set_option linter.unusedSimpArgs false

namespace Go.X
noncomputable section
set_option maxRecDepth 100000
theorem b4x3 : batch lenv4 fuel0 lb4 50 p4x3 p4x4 = true := by kernel_rfl
theorem b4x4 : batch lenv4 fuel0 lb4 50 p4x4 p4x5 = true := by kernel_rfl
theorem b4x5 : batch lenv4 fuel0 lb4 50 p4x5 p4x6 = true := by kernel_rfl
end
end Go.X
