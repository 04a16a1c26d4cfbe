/- Long calls, run. -/
import Derived.Test.YtbnldlojlbbgbaaGreatDoorXLp4
import Derived.KernelRfl
set_option linter.unusedVariables false
set_option linter.unusedSimpArgs false

namespace Go.X
noncomputable section
set_option maxRecDepth 100000
theorem b4x15 : batch lenv4 fuel0 lb4 50 p4x15 p4x16 = true := by kernel_rfl
theorem b4x16 : batch lenv4 fuel0 lb4 50 p4x16 p4x17 = true := by kernel_rfl
theorem b4x17 : batch lenv4 fuel0 lb4 50 p4x17 p4x18 = true := by kernel_rfl
end
end Go.X
