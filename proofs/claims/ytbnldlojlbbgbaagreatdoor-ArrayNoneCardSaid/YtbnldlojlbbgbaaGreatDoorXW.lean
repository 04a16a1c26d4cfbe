/- The law, run. -/
import Derived.Test.YtbnldlojlbbgbaaGreatDoorXl
import Derived.KernelRfl
set_option linter.unusedVariables false
set_option linter.unusedSimpArgs false

namespace Go.X
noncomputable section
set_option maxRecDepth 100000
theorem whole (root i : Int) : topRun KL5 3 [.int .i64 root, .int .i64 i] = true := by kernel_rfl
end
end Go.X
