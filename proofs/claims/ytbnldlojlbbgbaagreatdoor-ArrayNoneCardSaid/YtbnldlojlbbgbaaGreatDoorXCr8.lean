/- Long calls, run. -/
import Derived.Test.YtbnldlojlbbgbaaGreatDoorXLp4
import Derived.KernelRfl
set_option linter.unusedVariables false
set_option linter.unusedSimpArgs false

namespace Go.X
noncomputable section
set_option maxRecDepth 100000
theorem b4x6 : batch lenv4 fuel0 lb4 50 p4x6 p4x7 = true := by kernel_rfl
theorem b4x7 : batch lenv4 fuel0 lb4 50 p4x7 p4x8 = true := by kernel_rfl
theorem b4x8 : batch lenv4 fuel0 lb4 50 p4x8 p4x9 = true := by kernel_rfl
end
end Go.X
