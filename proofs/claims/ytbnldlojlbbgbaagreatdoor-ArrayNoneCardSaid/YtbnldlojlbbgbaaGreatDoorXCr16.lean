/- Long calls, run. -/
import Derived.Test.YtbnldlojlbbgbaaGreatDoorXLp11601
import Derived.Test.YtbnldlojlbbgbaaGreatDoorXLp12722
import Derived.KernelRfl
set_option linter.unusedVariables false
set_option linter.unusedSimpArgs false

namespace Go.X
noncomputable section
set_option maxRecDepth 100000
theorem b11601x0 : batch lenv11601 fuel0 lb11601 81 p11601x0 p11601x1 = true := by kernel_rfl
theorem b11601x1 : batch lenv11601 fuel0 lb11601 81 p11601x1 p11601x2 = true := by kernel_rfl
theorem b12722x0 : batch lenv12722 fuel0 lb12722 81 p12722x0 p12722x1 = true := by kernel_rfl
theorem b12722x1 : batch lenv12722 fuel0 lb12722 81 p12722x1 p12722x2 = true := by kernel_rfl
end
end Go.X
