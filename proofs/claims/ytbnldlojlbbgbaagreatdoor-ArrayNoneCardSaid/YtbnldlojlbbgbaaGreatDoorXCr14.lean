/- Long calls, run. -/
import Derived.Test.YtbnldlojlbbgbaaGreatDoorXLp4
import Derived.KernelRfl
set_option linter.unusedVariables false
set_option linter.unusedSimpArgs false

namespace Go.X
noncomputable section
set_option maxRecDepth 100000
theorem b4x24 : batch lenv4 fuel0 lb4 50 p4x24 p4x25 = true := by kernel_rfl
theorem b4x25 : batch lenv4 fuel0 lb4 50 p4x25 p4x26 = true := by kernel_rfl
theorem b4x26 : batch lenv4 fuel0 lb4 50 p4x26 p4x27 = true := by kernel_rfl
end
end Go.X
