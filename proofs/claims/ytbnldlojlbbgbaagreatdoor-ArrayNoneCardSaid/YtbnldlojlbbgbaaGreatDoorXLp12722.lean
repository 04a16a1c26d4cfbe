/- A function with a long loop. -/
import Derived.Test.YtbnldlojlbbgbaaGreatDoorXl
import Derived.KernelRfl
set_option linter.unusedVariables false
set_option linter.unusedSimpArgs false

namespace Go.X
noncomputable section
open Go.Proofs
set_option maxRecDepth 100000
noncomputable def lc12722 : Code := (P0.funcs.getD 148 default).body.getD .skip
noncomputable def lb12722 : Code := match dropSeq 6 lc12722 with | .seq (.block _ (.loop b)) _ => b | _ => .skip
noncomputable def lr12722 : Code := match dropSeq 6 lc12722 with | .seq _ r => r | _ => .skip
noncomputable def lctx12722 : Ctx := ⟨P0, aCall P0 ext0 K0 drawnRun fuel0 60 false, aCall P0 ext0 K0 drawnRun fuel0 60 true, ext0⟩
noncomputable def lenv12722 : Env := ⟨lctx12722, 6, 51, drawnRun lctx12722 6 51⟩
theorem lcode12722 : dropSeq 6 lc12722 = .seq (joinPre .none (.block 0 (.loop lb12722))) lr12722 := by kernel_rfl
theorem lfn12722 : ∃ fn, P0.funcs[148]? = some fn ∧ fn.body = some lc12722 ∧ fn.ntmps = 51 ∧ fn.results = #[.tmp 6, .tmp 7, .tmp 8] := ⟨P0.funcs.getD 148 default, by kernel_rfl, by kernel_rfl, by kernel_rfl, by kernel_rfl⟩
theorem lhead12722 : loopHead lenv12722 fuel0 6 lc12722 .none c12722 p12722x0 = true := by kernel_rfl
theorem lend12722 : loopEnd lenv12722 fuel0 0 lb12722 lr12722 [.tmp 6, .tmp 7, .tmp 8] c12722 p12722x2 = true := by kernel_rfl
end
end Go.X
