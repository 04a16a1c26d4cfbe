/- Long calls, run. -/
import Derived.Test.YtbnldlojlbbgbaaGreatDoorXLp4
import Derived.KernelRfl
set_option linter.unusedVariables false
set_option linter.unusedSimpArgs false

namespace Go.X
noncomputable section
set_option maxRecDepth 100000
theorem b4x18 : batch lenv4 fuel0 lb4 50 p4x18 p4x19 = true := by kernel_rfl
theorem b4x19 : batch lenv4 fuel0 lb4 50 p4x19 p4x20 = true := by kernel_rfl
theorem b4x20 : batch lenv4 fuel0 lb4 50 p4x20 p4x21 = true := by kernel_rfl
end
end Go.X
