/- A function with a long loop. -/
import Derived.Test.YtbnldlojlbbgbaaGreatDoorXl
import Derived.KernelRfl
set_option linter.unusedVariables false
set_option linter.unusedSimpArgs false

namespace Go.X
noncomputable section
open Go.Proofs
set_option maxRecDepth 100000
noncomputable def lc13886 : Code := (P0.funcs.getD 148 default).body.getD .skip
noncomputable def lb13886 : Code := match dropSeq 6 lc13886 with | .seq (.block _ (.loop b)) _ => b | _ => .skip
noncomputable def lr13886 : Code := match dropSeq 6 lc13886 with | .seq _ r => r | _ => .skip
noncomputable def lctx13886 : Ctx := ⟨P0, aCall P0 ext0 K0 drawnRun fuel0 60 false, aCall P0 ext0 K0 drawnRun fuel0 60 true, ext0⟩
noncomputable def lenv13886 : Env := ⟨lctx13886, 6, 51, drawnRun lctx13886 6 51⟩
theorem lcode13886 : dropSeq 6 lc13886 = .seq (joinPre .none (.block 0 (.loop lb13886))) lr13886 := by kernel_rfl
theorem lfn13886 : ∃ fn, P0.funcs[148]? = some fn ∧ fn.body = some lc13886 ∧ fn.ntmps = 51 ∧ fn.results = #[.tmp 6, .tmp 7, .tmp 8] := ⟨P0.funcs.getD 148 default, by kernel_rfl, by kernel_rfl, by kernel_rfl, by kernel_rfl⟩
theorem lhead13886 : loopHead lenv13886 fuel0 6 lc13886 .none c13886 p13886x0 = true := by kernel_rfl
theorem lend13886 : loopEnd lenv13886 fuel0 0 lb13886 lr13886 [.tmp 6, .tmp 7, .tmp 8] c13886 p13886x2 = true := by kernel_rfl
end
end Go.X
