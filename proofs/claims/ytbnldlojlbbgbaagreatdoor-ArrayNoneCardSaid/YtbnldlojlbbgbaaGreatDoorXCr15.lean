/- Long calls, run. -/
import Derived.Test.YtbnldlojlbbgbaaGreatDoorXLp4
import Derived.KernelRfl
set_option linter.unusedVariables false
set_option linter.unusedSimpArgs false

namespace Go.X
noncomputable section
set_option maxRecDepth 100000
theorem b4x27 : batch lenv4 fuel0 lb4 50 p4x27 p4x28 = true := by kernel_rfl
theorem b4x28 : batch lenv4 fuel0 lb4 50 p4x28 p4x29 = true := by kernel_rfl
theorem b4x29 : batch lenv4 fuel0 lb4 50 p4x29 p4x30 = true := by kernel_rfl
end
end Go.X
