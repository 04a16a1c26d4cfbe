/- The law, run at a page of one kind. -/
import Derived.Test.YtpillpddioldbaaGreatDoorXl
import Derived.KernelRfl
set_option linter.unusedVariables false
set_option linter.unusedSimpArgs false

namespace Go.X
noncomputable section
set_option maxRecDepth 100000
theorem whole_1 (page : Int) : whole KD page 1 = true := by kernel_rfl
end
end Go.X
