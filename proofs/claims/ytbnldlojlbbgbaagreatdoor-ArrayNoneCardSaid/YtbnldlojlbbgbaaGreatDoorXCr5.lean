/- Long calls, run. -/
import Derived.Test.YtbnldlojlbbgbaaGreatDoorXl
import Derived.KernelRfl
set_option linter.unusedVariables false
set_option linter.unusedSimpArgs false

namespace Go.X
noncomputable section
set_option maxRecDepth 100000
theorem c15314_run : cutRun P0 ext0 KL1 drawnRun fuel0 22 c15314 = true := by kernel_rfl
theorem c15455_run : cutRun P0 ext0 KL1 drawnRun fuel0 22 c15455 = true := by kernel_rfl
theorem c15626_run : cutRun P0 ext0 KL1 drawnRun fuel0 22 c15626 = true := by kernel_rfl
theorem c15767_run : cutRun P0 ext0 KL1 drawnRun fuel0 22 c15767 = true := by kernel_rfl
theorem c11432_run : cutRun P0 ext0 KL2 drawnRun fuel0 14 c11432 = true := by kernel_rfl
theorem c12657_run : cutRun P0 ext0 KL2 drawnRun fuel0 14 c12657 = true := by kernel_rfl
theorem c13795_run : cutRun P0 ext0 KL2 drawnRun fuel0 14 c13795 = true := by kernel_rfl
theorem c2_run : cutRun P0 ext0 KL3 drawnRun fuel0 12 c2 = true := by kernel_rfl
theorem c13762_run : cutRun P0 ext0 KL3 drawnRun fuel0 8 c13762 = true := by kernel_rfl
theorem c15600_run : cutRun P0 ext0 KL3 drawnRun fuel0 8 c15600 = true := by kernel_rfl
theorem c1_run : cutRun P0 ext0 KL4 drawnRun fuel0 4 c1 = true := by kernel_rfl
end
end Go.X
