/- A function with a long loop. -/
import Derived.Test.YtbnldlojlbbgbaaGreatDoorXl
import Derived.KernelRfl
set_option linter.unusedVariables false
set_option linter.unusedSimpArgs false

namespace Go.X
noncomputable section
open Go.Proofs
set_option maxRecDepth 100000
noncomputable def lc4 : Code := (P0.funcs.getD 24 default).body.getD .skip
noncomputable def la4 : Code := match dropSeq 3 lc4 with | .seq (.seq a _) _ => a | _ => .skip
noncomputable def lb4 : Code := match dropSeq 3 lc4 with | .seq (.seq _ (.block _ (.loop b))) _ => b | _ => .skip
noncomputable def lr4 : Code := match dropSeq 3 lc4 with | .seq _ r => r | _ => .skip
noncomputable def lctx4 : Ctx := ⟨P0, aCall P0 ext0 K0 drawnRun fuel0 60 false, aCall P0 ext0 K0 drawnRun fuel0 60 true, ext0⟩
noncomputable def lenv4 : Env := ⟨lctx4, 6, 59, drawnRun lctx4 6 59⟩
theorem lcode4 : dropSeq 3 lc4 = .seq (joinPre (some la4) (.block 0 (.loop lb4))) lr4 := by kernel_rfl
theorem lfn4 : ∃ fn, P0.funcs[24]? = some fn ∧ fn.body = some lc4 ∧ fn.ntmps = 59 ∧ fn.results = #[.tmp 6, .tmp 7] := ⟨P0.funcs.getD 24 default, by kernel_rfl, by kernel_rfl, by kernel_rfl, by kernel_rfl⟩
theorem lhead4 : loopHead lenv4 fuel0 3 lc4 (some la4) c4 p4x0 = true := by kernel_rfl
theorem lend4 : loopEnd lenv4 fuel0 0 lb4 lr4 [.tmp 6, .tmp 7] c4 p4x30 = true := by kernel_rfl
end
end Go.X
