/- Long calls, run. -/
import Derived.Test.YtbnldlojlbbgbaaGreatDoorXLp4
import Derived.KernelRfl
set_option linter.unusedVariables false
set_option linter.unusedSimpArgs false

namespace Go.X
noncomputable section
set_option maxRecDepth 100000
theorem b4x9 : batch lenv4 fuel0 lb4 50 p4x9 p4x10 = true := by kernel_rfl
theorem b4x10 : batch lenv4 fuel0 lb4 50 p4x10 p4x11 = true := by kernel_rfl
theorem b4x11 : batch lenv4 fuel0 lb4 50 p4x11 p4x12 = true := by kernel_rfl
end
end Go.X
