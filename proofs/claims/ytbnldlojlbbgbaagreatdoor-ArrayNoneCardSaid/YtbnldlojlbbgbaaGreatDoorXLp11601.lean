/- A function with a long loop. -/
import Derived.Test.YtbnldlojlbbgbaaGreatDoorXl
import Derived.KernelRfl
set_option linter.unusedVariables false
set_option linter.unusedSimpArgs false

namespace Go.X
noncomputable section
open Go.Proofs
set_option maxRecDepth 100000
noncomputable def lc11601 : Code := (P0.funcs.getD 148 default).body.getD .skip
noncomputable def lb11601 : Code := match dropSeq 6 lc11601 with | .seq (.block _ (.loop b)) _ => b | _ => .skip
noncomputable def lr11601 : Code := match dropSeq 6 lc11601 with | .seq _ r => r | _ => .skip
noncomputable def lctx11601 : Ctx := ⟨P0, aCall P0 ext0 K0 drawnRun fuel0 60 false, aCall P0 ext0 K0 drawnRun fuel0 60 true, ext0⟩
noncomputable def lenv11601 : Env := ⟨lctx11601, 6, 51, drawnRun lctx11601 6 51⟩
theorem lcode11601 : dropSeq 6 lc11601 = .seq (joinPre .none (.block 0 (.loop lb11601))) lr11601 := by kernel_rfl
theorem lfn11601 : ∃ fn, P0.funcs[148]? = some fn ∧ fn.body = some lc11601 ∧ fn.ntmps = 51 ∧ fn.results = #[.tmp 6, .tmp 7, .tmp 8] := ⟨P0.funcs.getD 148 default, by kernel_rfl, by kernel_rfl, by kernel_rfl, by kernel_rfl⟩
theorem lhead11601 : loopHead lenv11601 fuel0 6 lc11601 .none c11601 p11601x0 = true := by kernel_rfl
theorem lend11601 : loopEnd lenv11601 fuel0 0 lb11601 lr11601 [.tmp 6, .tmp 7, .tmp 8] c11601 p11601x2 = true := by kernel_rfl
end
end Go.X
